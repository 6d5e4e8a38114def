/- rtcp.Packet.good. -/
import Derived.Test.YtddopbbmgpnjjaaRcG
namespace Go.Proofs.Ytddopbbmgpnjjaa
open Go.RowKit
set_option linter.unusedSimpArgs false

theorem len_if {α : Type} (c : Prop) [Decidable c] (l : List α) : ((l.length : Int) == ((if c then l.length else 0 : Nat) : Int)) = true ↔ l = (if c then l else []) := by
  by_cases h : c
  · simp [h]
  · simp [h]
theorem cleanE (kind : Int) (sender : Int) (media : Int) (ntp : Int) (rtp : Int) (pkts : Int) (octs : Int) (base : Int) (ref : Int) (count : Int) (name : ByteArray) (reps : List Rp) (srcs seqs arrs : List Int) (wants : List Wn) : ((sender == (if kind = 4 then 0 else sender)) && (media == (if 5 ≤ kind then media else 0)) && (ntp == (if kind = 1 then ntp else 0)) && (rtp == (if kind = 1 then rtp else 0)) && (pkts == (if kind = 1 then pkts else 0)) && (octs == (if kind = 1 then octs else 0)) && (name.toList == (if kind = 3 then name else ⟨#[]⟩ : ByteArray).toList) && (base == (if kind = 6 then base else 0)) && (ref == (if kind = 6 then ref else 0)) && (count == (if kind = 6 then count else 0)) && ((reps.length : Int) == ((if kind = 1 ∨ kind = 2 then reps.length else 0 : Nat) : Int)) && ((srcs.length : Int) == ((if kind = 4 then srcs.length else 0 : Nat) : Int)) && ((seqs.length : Int) == ((if kind = 5 then seqs.length else 0 : Nat) : Int)) && ((arrs.length : Int) == ((if kind = 6 then arrs.length else 0 : Nat) : Int)) && ((wants.length : Int) == ((if kind = 8 then wants.length else 0 : Nat) : Int))) = sameB ⟨kind, sender, media, ntp, rtp, pkts, octs, reps, name, srcs, seqs, base, ref, count, arrs, wants⟩ (onlyP ⟨kind, sender, media, ntp, rtp, pkts, octs, reps, name, srcs, seqs, base, ref, count, arrs, wants⟩) := by
  have key : ((sender == (if kind = 4 then 0 else sender)) && (media == (if 5 ≤ kind then media else 0)) && (ntp == (if kind = 1 then ntp else 0)) && (rtp == (if kind = 1 then rtp else 0)) && (pkts == (if kind = 1 then pkts else 0)) && (octs == (if kind = 1 then octs else 0)) && (name.toList == (if kind = 3 then name else ⟨#[]⟩ : ByteArray).toList) && (base == (if kind = 6 then base else 0)) && (ref == (if kind = 6 then ref else 0)) && (count == (if kind = 6 then count else 0)) && ((reps.length : Int) == ((if kind = 1 ∨ kind = 2 then reps.length else 0 : Nat) : Int)) && ((srcs.length : Int) == ((if kind = 4 then srcs.length else 0 : Nat) : Int)) && ((seqs.length : Int) == ((if kind = 5 then seqs.length else 0 : Nat) : Int)) && ((arrs.length : Int) == ((if kind = 6 then arrs.length else 0 : Nat) : Int)) && ((wants.length : Int) == ((if kind = 8 then wants.length else 0 : Nat) : Int))) = true ↔ (⟨kind, sender, media, ntp, rtp, pkts, octs, reps, name, srcs, seqs, base, ref, count, arrs, wants⟩ : Pk) = onlyP ⟨kind, sender, media, ntp, rtp, pkts, octs, reps, name, srcs, seqs, base, ref, count, arrs, wants⟩ := by
    simp only [Bool.and_eq_true, len_if]
    simp only [beq_iff_eq, ByteArray.toList_eq]
    unfold onlyP
    constructor
    · rintro ⟨⟨⟨⟨⟨⟨⟨⟨⟨⟨⟨⟨⟨⟨h1, h2⟩, h3⟩, h4⟩, h5⟩, h6⟩, h7⟩, h8⟩, h9⟩, h10⟩, h11⟩, h12⟩, h13⟩, h14⟩, h15⟩
      simp only [Pk.mk.injEq, true_and]
      exact ⟨h1, h2, h3, h4, h5, h6, h11, ls_inj h7, h12, h13, h8, h9, h10, h14, h15⟩
    · intro h
      simp only [Pk.mk.injEq, true_and] at h
      obtain ⟨h1, h2, h3, h4, h5, h6, h11, h7, h12, h13, h8, h9, h10, h14, h15⟩ := h
      exact ⟨⟨⟨⟨⟨⟨⟨⟨⟨⟨⟨⟨⟨⟨h1, h2⟩, h3⟩, h4⟩, h5⟩, h6⟩, congrArg (fun s : ByteArray => s.data.toList) h7⟩, h8⟩, h9⟩, h10⟩, h11⟩, h12⟩, h13⟩, h14⟩, h15⟩
  by_cases h : (⟨kind, sender, media, ntp, rtp, pkts, octs, reps, name, srcs, seqs, base, ref, count, arrs, wants⟩ : Pk) = onlyP ⟨kind, sender, media, ntp, rtp, pkts, octs, reps, name, srcs, seqs, base, ref, count, arrs, wants⟩
  · rw [sameB_yes h]; exact key.2 h
  · rw [sameB_no h, Bool.eq_false_iff]; exact fun e => h (key.1 e)
theorem cleanC (I : Img) (M : List Res) (w : World) (kind : Int) (sender : Int) (media : Int) (ntp : Int) (rtp : Int) (pkts : Int) (octs : Int) (base : Int) (ref : Int) (count : Int) (name : ByteArray) (reps : List Rp) (srcs seqs arrs : List Int) (wants : List Wn) (rA : Option Addr) (rz : Nat) (sA : Option Addr) (sz : Nat) (qA : Option Addr) (qz : Nat) (aA : Option Addr) (az : Nat) (wA : Option Addr) (wz : Nat) (hst : St I M w) :
    Calls Try.prog 46 #[.agg #[.int .i64 kind, .int .u32 sender, .int .u32 media, .int .u64 ntp, .int .u32 rtp, .int .u32 pkts, .int .u32 octs, .slice rA reps.length rz, .string name, .slice sA srcs.length sz, .slice qA seqs.length qz, .int .u16 base, .int .u32 ref, .int .u8 count, .slice aA arrs.length az, .slice wA wants.length wz]] w (Ret I (fun u J M' => I = J ∧ u = .bool (sameB ⟨kind, sender, media, ntp, rtp, pkts, octs, reps, name, srcs, seqs, base, ref, count, arrs, wants⟩ (onlyP ⟨kind, sender, media, ntp, rtp, pkts, octs, reps, name, srcs, seqs, base, ref, count, arrs, wants⟩)) ∧ M' = M)) := by
  have h := clean46 I M w kind sender media ntp rtp pkts octs rA reps.length rz name sA srcs.length sz qA seqs.length qz base ref count aA arrs.length az wA wants.length wz kind (if kind = 4 then 0 else sender) (if 5 ≤ kind then media else 0) (if kind = 1 then ntp else 0) (if kind = 1 then rtp else 0) (if kind = 1 then pkts else 0) (if kind = 1 then octs else 0) (if kind = 1 ∨ kind = 2 then rA else none) (if kind = 1 ∨ kind = 2 then reps.length else 0) (if kind = 1 ∨ kind = 2 then rz else 0) (if kind = 3 then name else ⟨#[]⟩) (if kind = 4 then sA else none) (if kind = 4 then srcs.length else 0) (if kind = 4 then sz else 0) (if kind = 5 then qA else none) (if kind = 5 then seqs.length else 0) (if kind = 5 then qz else 0) (if kind = 6 then base else 0) (if kind = 6 then ref else 0) (if kind = 6 then count else 0) (if kind = 6 then aA else none) (if kind = 6 then arrs.length else 0) (if kind = 6 then az else 0) (if kind = 8 then wA else none) (if kind = 8 then wants.length else 0) (if kind = 8 then wz else 0) hst (Lib.hid (fun M1 w1 hs => only69 I M1 w1 kind sender media ntp rtp pkts octs rA reps.length rz name sA srcs.length sz qA seqs.length qz base ref count aA arrs.length az wA wants.length wz hs))
  rw [cleanE] at h
  exact h
end Go.Proofs.Ytddopbbmgpnjjaa
namespace Go.Proofs.Ytddopbbmgpnjjaa
open Go.RowKit
set_option linter.unusedSimpArgs false

/-- numbers of 16 bits, each behind the one ahead and behind the first one -/
def Ord (l : List Int) : Prop := ∀ i (h : i < l.length) (_ : 0 < i), beforeB (l[i - 1]'(by omega)) l[i] = true ∧ beforeB (l[0]'(by omega)) l[i] = true
/-- what is asked of a kind -/
def KindOk (p : Pk) : Prop :=
  ((p.kind = 1 ∨ p.kind = 2) ∧ p.reps.any bigT = false ∧ p.reps.length ≤ 31) ∨ (p.kind = 3 ∧ 1 ≤ p.name.size ∧ p.name.size ≤ 64) ∨ (p.kind = 4 ∧ 1 ≤ p.srcs.length ∧ p.srcs.length ≤ 31) ∨ (p.kind = 5 ∧ Ord p.seqs ∧ 1 ≤ p.seqs.length ∧ p.seqs.length ≤ 32) ∨
  (p.kind = 6 ∧ p.arrs.any badA = false ∧ 1 ≤ p.arrs.length ∧ p.arrs.length ≤ 255 ∧ p.ref < 16777216) ∨ p.kind = 7 ∨ (p.kind = 8 ∧ 1 ≤ p.wants.length ∧ p.wants.length ≤ 8)
def Good (p : Pk) : Prop := KindOk p ∧ p = onlyP p
noncomputable def goodB (p : Pk) : Bool := @decide (Good p) (Classical.propDecidable _)
theorem goodB_yes {p : Pk} (h : Good p) : goodB p = true := by unfold goodB; exact @decide_eq_true _ (Classical.propDecidable _) h
theorem goodB_no {p : Pk} (h : ¬ Good p) : goodB p = false := by unfold goodB; exact @decide_eq_false _ (Classical.propDecidable _) h
theorem goodB_same {p : Pk} (h : KindOk p) : sameB p (onlyP p) = goodB p := by
  by_cases e : p = onlyP p
  · rw [sameB_yes e, goodB_yes ⟨h, e⟩]
  · rw [sameB_no e, goodB_no (fun g => e g.2)]
theorem goodB_bad {p : Pk} (h : ¬ KindOk p) : goodB p = false := goodB_no (fun g => h g.1)
theorem within_no {n lo hi : Int} (h : withinB n lo hi = false) : ¬ (lo ≤ n ∧ n ≤ hi) := by
  rintro ⟨h1, h2⟩
  unfold withinB at h
  rw [decide_eq_true h1, decide_eq_true h2] at h
  cases h
theorem within_yes {n lo hi : Int} (h : withinB n lo hi = true) : lo ≤ n ∧ n ≤ hi := by
  unfold withinB at h
  simpa using h
set_option maxRecDepth 100000 in
set_option maxHeartbeats 20000000 in
theorem goodC (I : Img) (M : List Res) (w : World) (kind : Int) (sender : Int) (media : Int) (ntp : Int) (rtp : Int) (pkts : Int) (octs : Int) (base : Int) (ref : Int) (count : Int) (name : ByteArray) (reps : List Rp) (srcs seqs arrs : List Int) (wants : List Wn) (rA : Option Addr) (rz : Nat) (sA : Option Addr) (sz : Nat) (qA : Option Addr) (qz : Nat) (aA : Option Addr) (az : Nat) (wA : Option Addr) (wz : Nat) (hr : Cells I rA (flat repC reps)) (lr : reps.length ≤ 140737488351232) (hrT : ∀ x ∈ reps, 0 ≤ x.total ∧ x.total ≤ 4294967295) (hq : Cells I qA (flat u16C seqs)) (lq : seqs.length ≤ 140737488351232) (ha : Cells I aA (flat intC arrs)) (la : arrs.length ≤ 140737488351232) (ln : name.size ≤ maxLen) (ls : srcs.length ≤ 140737488351232) (lw : wants.length ≤ 140737488351232) (hrf : 0 ≤ ref ∧ ref ≤ 4294967295) (hst : St I M w) :
    Calls Try.prog 20 #[.agg #[.int .i64 kind, .int .u32 sender, .int .u32 media, .int .u64 ntp, .int .u32 rtp, .int .u32 pkts, .int .u32 octs, .slice rA reps.length rz, .string name, .slice sA srcs.length sz, .slice qA seqs.length qz, .int .u16 base, .int .u32 ref, .int .u8 count, .slice aA arrs.length az, .slice wA wants.length wz]] w (Ret I (fun u J M' => I = J ∧ u = .bool (goodB (⟨kind, sender, media, ntp, rtp, pkts, octs, reps, name, srcs, seqs, base, ref, count, arrs, wants⟩ : Pk)) ∧ M' = M)) := by
  have hs1 := hst.alloc 51 #[.int .i64 kind, .int .u32 sender, .int .u32 media, .int .u64 ntp, .int .u32 rtp, .int .u32 pkts, .int .u32 octs, .slice rA reps.length rz, .string name, .slice sA srcs.length sz, .slice qA seqs.length qz, .int .u16 base, .int .u32 ref, .int .u8 count, .slice aA arrs.length az, .slice wA wants.length wz]
  have HR := Lib.hid (And.intro hr hrT)
  have HQ := Lib.hid hq
  have HA := Lib.hid ha
  obtain ⟨fs, hd⟩ := st51D
  obtain ⟨S, hS⟩ : ∃ S, S = goodB (⟨kind, sender, media, ntp, rtp, pkts, octs, reps, name, srcs, seqs, base, ref, count, arrs, wants⟩ : Pk) := ⟨_, rfl⟩
  have HSS := Lib.hid hS
  rw [← hS]
  unfold maxLen at ln
  clear hst hS hr hrT hq ha
  go_enter Try.func20, Try.ntmps20
  go_upto_block 0 with fail
  obtain ⟨q1, hq1⟩ : ∃ q, q = w.heap.size := ⟨_, rfl⟩
  rw [← hq1] at hs1 ⊢
  generalize World.alloc w _ = W at hs1 ⊢
  clear hq1
  have HS1 := Lib.hid hs1
  clear hs1
  go_cut [] (fun wx => St I (bk q1 51 #[.int .i64 kind, .int .u32 sender, .int .u32 media, .int .u64 ntp, .int .u32 rtp, .int .u32 pkts, .int .u32 octs, .slice rA reps.length rz, .string name, .slice sA srcs.length sz, .slice qA seqs.length qz, .int .u16 base, .int .u32 ref, .int .u8 count, .slice aA arrs.length az, .slice wA wants.length wz] :: M) wx ∧ KindOk (⟨kind, sender, media, ntp, rtp, pkts, octs, reps, name, srcs, seqs, base, ref, count, arrs, wants⟩ : Pk))
  case first =>
    obtain ⟨hc1, hf1, hl1⟩ := Blk.all (HS1.out.at 0 rfl)
    rcases onlyC_ways kind with rfl | rfl | rfl | rfl | rfl | rfl | rfl | rfl | ⟨k1, k2, k3, k4, k5, k6, k7, k8⟩
    · skip
      have HC := Lib.hid (anyR I _ W rA rz 42 #[] reps bigT (fun args w => by kernel_rfl) (fun W1 hs x hx => bigC x W1 (HR.out.2 x hx).1 (HR.out.2 x hx).2) HS1.out HR.out.1 lr)
      clear hc1 hf1 hl1
      obtain ⟨hc1, hf1, hl1⟩ := Blk.all (HS1.out.at 0 rfl)
      go_wp2_with fail
      go_at_call 41
      refine HC.out.mono ?_
      rintro e w2 ⟨rfl, hs⟩
      clear HC HS1 hc1 hf1 hl1
      have HS1 := Lib.hid hs
      clear hs
      obtain ⟨hc1, hf1, hl1⟩ := Blk.all (HS1.out.at 0 rfl)
      cases hany : reps.any bigT
      · have HY := Lib.hid hany
        by_cases hl : reps.length ≤ 31
        · have hl' : decide ((31 : Int) < reps.length) = false := decide_eq_false (by omega)
          have HL := Lib.hid hl
          go_wp2
          go_meet
          exact ⟨HS1.out, .inl ⟨.inl rfl, HY.out, HL.out⟩⟩
        · have hl' : (31 : Int) < reps.length := by omega
          have HL := Lib.hid hl
          have HE := Lib.hid (HSS.out.trans (goodB_bad (fun h => by unfold KindOk at h; simp only [] at h; have := HL.out; omega)))
          go_wp2
          go_returns
          exact Ret.mk (.refl I) HS1.out.drop ⟨rfl, congrArg Value.bool HE.out.symm, rfl⟩
      · have HY := Lib.hid hany
        have HE := Lib.hid (HSS.out.trans (goodB_bad (fun h => by unfold KindOk at h; simp only [] at h; (rcases h with h | h | h | h | h | h | h <;> first | omega | (rw [HY.out] at h; simp at h)))))
        go_wp2
        go_returns
        exact Ret.mk (.refl I) HS1.out.drop ⟨rfl, congrArg Value.bool HE.out.symm, rfl⟩
    · skip
      have HC := Lib.hid (anyR I _ W rA rz 42 #[] reps bigT (fun args w => by kernel_rfl) (fun W1 hs x hx => bigC x W1 (HR.out.2 x hx).1 (HR.out.2 x hx).2) HS1.out HR.out.1 lr)
      clear hc1 hf1 hl1
      obtain ⟨hc1, hf1, hl1⟩ := Blk.all (HS1.out.at 0 rfl)
      go_wp2_with fail
      go_at_call 41
      refine HC.out.mono ?_
      rintro e w2 ⟨rfl, hs⟩
      clear HC HS1 hc1 hf1 hl1
      have HS1 := Lib.hid hs
      clear hs
      obtain ⟨hc1, hf1, hl1⟩ := Blk.all (HS1.out.at 0 rfl)
      cases hany : reps.any bigT
      · have HY := Lib.hid hany
        by_cases hl : reps.length ≤ 31
        · have hl' : decide ((31 : Int) < reps.length) = false := decide_eq_false (by omega)
          have HL := Lib.hid hl
          go_wp2
          go_meet
          exact ⟨HS1.out, .inl ⟨.inr rfl, HY.out, HL.out⟩⟩
        · have hl' : (31 : Int) < reps.length := by omega
          have HL := Lib.hid hl
          have HE := Lib.hid (HSS.out.trans (goodB_bad (fun h => by unfold KindOk at h; simp only [] at h; have := HL.out; omega)))
          go_wp2
          go_returns
          exact Ret.mk (.refl I) HS1.out.drop ⟨rfl, congrArg Value.bool HE.out.symm, rfl⟩
      · have HY := Lib.hid hany
        have HE := Lib.hid (HSS.out.trans (goodB_bad (fun h => by unfold KindOk at h; simp only [] at h; (rcases h with h | h | h | h | h | h | h <;> first | omega | (rw [HY.out] at h; simp at h)))))
        go_wp2
        go_returns
        exact Ret.mk (.refl I) HS1.out.drop ⟨rfl, congrArg Value.bool HE.out.symm, rfl⟩
    · skip
      have HC := Lib.hid (withinC (name.size : Int) 1 64 W)
      go_wp2_with fail
      go_at_call 19
      refine HC.out.mono ?_
      rintro e w2 ⟨rfl, hw⟩
      subst hw
      cases hb : withinB (name.size : Int) 1 64
      · have HY := Lib.hid (within_no hb)
        have HE := Lib.hid (HSS.out.trans (goodB_bad (fun h => by unfold KindOk at h; simp only [] at h; have := HY.out; omega)))
        go_wp2
        go_returns
        exact Ret.mk (.refl I) HS1.out.drop ⟨rfl, congrArg Value.bool HE.out.symm, rfl⟩
      · have HY := Lib.hid (within_yes hb)
        go_wp2
        go_meet
        exact ⟨HS1.out, .inr (.inl ⟨rfl, by have := HY.out; show 1 ≤ name.size; omega, by have := HY.out; show name.size ≤ 64; omega⟩)⟩
    · skip
      have HC := Lib.hid (withinC (srcs.length : Int) 1 31 W)
      go_wp2_with fail
      go_at_call 19
      refine HC.out.mono ?_
      rintro e w2 ⟨rfl, hw⟩
      subst hw
      cases hb : withinB (srcs.length : Int) 1 31
      · have HY := Lib.hid (within_no hb)
        have HE := Lib.hid (HSS.out.trans (goodB_bad (fun h => by unfold KindOk at h; simp only [] at h; have := HY.out; omega)))
        go_wp2
        go_returns
        exact Ret.mk (.refl I) HS1.out.drop ⟨rfl, congrArg Value.bool HE.out.symm, rfl⟩
      · have HY := Lib.hid (within_yes hb)
        go_wp2
        go_meet
        exact ⟨HS1.out, .inr (.inr (.inl ⟨rfl, by have := HY.out; show 1 ≤ srcs.length; omega, by have := HY.out; show srcs.length ≤ 31; omega⟩))⟩
    · skip
      go_wp2_with fail
      go_loopw [38] (fun iv wr => ∃ k : Nat, k ≤ seqs.length ∧ iv = .int .i64 k ∧ Hid ((∀ i (h : i < seqs.length) (_ : 0 < i), i < k → beforeB (seqs[i - 1]'(by omega)) seqs[i] = true ∧ beforeB (seqs[0]'(by omega)) seqs[i] = true) ∧ wr = W)) (fun iv _ => seqs.length - (intOf iv).toNat)
      case atStart => exact ⟨0, Nat.zero_le _, rfl, fun j _ _ h => by omega, rfl⟩
      case round =>
        obtain ⟨k, hk, rfl, hh⟩ := hrel
        obtain ⟨hno, hw⟩ := hh.out
        subst hw
        have HNO := Lib.hid hno
        clear hh hno
        by_cases hlt : k < seqs.length
        · obtain ⟨g, o, rfl, hcell⟩ := flat_get (s := 1) (fun _ => rfl) HQ.out (by omega) (by decide)
          replace hcell : ∀ j (h : j < seqs.length), wr.cell? ⟨g, o + j, none⟩ = some (.int .u16 seqs[j]) := fun j h => by
            have := hcell _ _ HS1.out j h 0 (by decide)
            simpa using this
          have zk := hcell k hlt
          rcases Nat.eq_zero_or_pos k with rfl | hpos
          · have HNO2 := Lib.hid (show ∀ i (h : i < seqs.length) (_ : 0 < i), i < 0 + 1 → beforeB (seqs[i - 1]'(by omega)) seqs[i] = true ∧ beforeB (seqs[0]'(by omega)) seqs[i] = true from fun i h h0 h1 => by omega)
            have z0 : wr.cell? ⟨g, o, none⟩ = some (.int .u16 seqs[0]) := hcell 0 hlt
            clear hcell zk
            go_wp2
            go_roundw
            case rel => exact ⟨1, by omega, rfl, HNO2.out, trivial⟩
            case measure => simp [intOf]; omega
          · obtain ⟨j, rfl⟩ : ∃ j, k = j + 1 := ⟨k - 1, by omega⟩
            have zj := hcell j (by omega)
            have z0 : wr.cell? ⟨g, o, none⟩ = some (.int .u16 (seqs[0]'(by omega))) := hcell 0 (by omega)
            clear hcell
            obtain ⟨xk, hxk⟩ : ∃ x, x = seqs[j + 1] := ⟨_, rfl⟩
            obtain ⟨xj, hxj⟩ : ∃ x, x = seqs[j]'(by omega) := ⟨_, rfl⟩
            obtain ⟨x0, hx0⟩ : ∃ x, x = seqs[0]'(by omega) := ⟨_, rfl⟩
            rw [← hxk] at zk
            rw [← hxj] at zj
            rw [← hx0] at z0
            have HXK := Lib.hid hxk
            have HXJ := Lib.hid hxj
            have HX0 := Lib.hid hx0
            clear hxk hxj hx0
            have hj1 : (j : Int) + 1 < seqs.length := by omega
            have hj2 : (0 : Int) < (j : Int) + 1 := by omega
            have HB1 := Lib.hid (beforeC xj xk wr)
            have HB2 := Lib.hid (beforeC x0 xk wr)
            cases hb1 : beforeB xj xk
            · have HE := Lib.hid (HSS.out.trans (goodB_bad (fun h => by
                unfold KindOk at h
                simp only [] at h
                rcases h with h | h | h | h | h | h | h
                · omega
                · omega
                · omega
                · have h2 := (h.2.1 (j + 1) hlt (by omega)).1
                  have e : beforeB xj xk = true := by rw [HXK.out, HXJ.out]; exact h2
                  rw [hb1] at e; cases e
                · omega
                · omega
                · omega)))
              go_wp2_with fail
              go_at_call 43
              refine HB1.out.mono ?_
              rintro e w2 ⟨rfl, hw⟩
              subst hw
              go_wp2
              go_returns
              exact Ret.mk (.refl I) HS1.out.drop ⟨rfl, congrArg Value.bool HE.out.symm, rfl⟩
            · cases hb2 : beforeB x0 xk
              · have HE := Lib.hid (HSS.out.trans (goodB_bad (fun h => by
                  unfold KindOk at h
                  simp only [] at h
                  rcases h with h | h | h | h | h | h | h
                  · omega
                  · omega
                  · omega
                  · have h2 := (h.2.1 (j + 1) hlt (by omega)).2
                    have e : beforeB x0 xk = true := by rw [HXK.out, HX0.out]; exact h2
                    rw [hb2] at e; cases e
                  · omega
                  · omega
                  · omega)))
                go_wp2_with fail
                go_at_call 43
                refine HB1.out.mono ?_
                rintro e w2 ⟨rfl, hw⟩
                subst hw
                go_wp2_with fail
                go_at_call 43
                refine HB2.out.mono ?_
                rintro e w2 ⟨rfl, hw⟩
                subst hw
                go_wp2
                go_returns
                exact Ret.mk (.refl I) HS1.out.drop ⟨rfl, congrArg Value.bool HE.out.symm, rfl⟩
              · have HNO2 := Lib.hid (show ∀ i (h : i < seqs.length) (_ : 0 < i), i < j + 1 + 1 → beforeB (seqs[i - 1]'(by omega)) seqs[i] = true ∧ beforeB (seqs[0]'(by omega)) seqs[i] = true from fun i h h0 h1 => by
                  by_cases e : i = j + 1
                  · subst e; exact ⟨by have := hb1; rw [HXK.out, HXJ.out] at this; exact this, by have := hb2; rw [HXK.out, HX0.out] at this; exact this⟩
                  · exact HNO.out i h h0 (by omega))
                go_wp2_with fail
                go_at_call 43
                refine HB1.out.mono ?_
                rintro e w2 ⟨rfl, hw⟩
                subst hw
                go_wp2_with fail
                go_at_call 43
                refine HB2.out.mono ?_
                rintro e w2 ⟨rfl, hw⟩
                subst hw
                go_wp2
                go_roundw
                case rel => exact ⟨j + 1 + 1, by omega, by go_num, HNO2.out, trivial⟩
                case measure => simp [intOf]; omega
        · have HNO2 := Lib.hid (show Ord seqs from fun i h h0 => HNO.out i h h0 (by omega))
          have HC := Lib.hid (withinC (seqs.length : Int) 1 32 wr)
          go_wp2_with fail
          go_at_call 19
          refine HC.out.mono ?_
          rintro e w2 ⟨rfl, hw⟩
          subst hw
          cases hb : withinB (seqs.length : Int) 1 32
          · have HY := Lib.hid (within_no hb)
            have HE := Lib.hid (HSS.out.trans (goodB_bad (fun h => by unfold KindOk at h; simp only [] at h; have := HY.out; omega)))
            go_wp2
            go_returns
            exact Ret.mk (.refl I) HS1.out.drop ⟨rfl, congrArg Value.bool HE.out.symm, rfl⟩
          · have HY := Lib.hid (within_yes hb)
            go_wp2
            go_meet
            exact ⟨HS1.out, .inr (.inr (.inr (.inl ⟨rfl, HNO2.out, by have := HY.out; show 1 ≤ seqs.length; omega, by have := HY.out; show seqs.length ≤ 32; omega⟩)))⟩
    · skip
      have HC := Lib.hid (anyI I _ W aA az 45 #[] arrs badA (fun args w => by kernel_rfl) (fun W1 hs x hx => badC x W1) HS1.out HA.out la)
      go_wp2_with fail
      go_at_call 44
      refine HC.out.mono ?_
      rintro e w2 ⟨rfl, hs⟩
      clear HC HS1 hc1 hf1 hl1
      have HS1 := Lib.hid hs
      clear hs
      obtain ⟨hc1, hf1, hl1⟩ := Blk.all (HS1.out.at 0 rfl)
      cases hany : arrs.any badA
      · have HY := Lib.hid hany
        have HC := Lib.hid (withinC (arrs.length : Int) 1 255 w2)
        go_wp2_with fail
        go_at_call 19
        refine HC.out.mono ?_
        rintro e w3 ⟨rfl, hw⟩
        subst hw
        cases hb : withinB (arrs.length : Int) 1 255
        · have HN := Lib.hid (within_no hb)
          have HE := Lib.hid (HSS.out.trans (goodB_bad (fun h => by unfold KindOk at h; simp only [] at h; have := HN.out; omega)))
          go_wp2
          go_returns
          exact Ret.mk (.refl I) HS1.out.drop ⟨rfl, congrArg Value.bool HE.out.symm, rfl⟩
        · have HN := Lib.hid (within_yes hb)
          obtain ⟨hrf0, hrf1⟩ := hrf
          by_cases h24 : ref < 16777216
          · have hz : (ref / 16777216 != 0) = false := by rw [big_eq hrf0]; exact decide_eq_false (by omega)
            have HZ := Lib.hid h24
            go_wp2
            go_meet
            exact ⟨HS1.out, .inr (.inr (.inr (.inr (.inl ⟨rfl, HY.out, by have := HN.out; show 1 ≤ arrs.length; omega, by have := HN.out; show arrs.length ≤ 255; omega, HZ.out⟩))))⟩
          · have hz : (ref / 16777216 != 0) = true := by rw [big_eq hrf0]; exact decide_eq_true (by omega)
            have HZ := Lib.hid h24
            have HE := Lib.hid (HSS.out.trans (goodB_bad (fun h => by unfold KindOk at h; simp only [] at h; have := HZ.out; omega)))
            go_wp2
            go_returns
            exact Ret.mk (.refl I) HS1.out.drop ⟨rfl, congrArg Value.bool HE.out.symm, rfl⟩
      · have HY := Lib.hid hany
        have HE := Lib.hid (HSS.out.trans (goodB_bad (fun h => by unfold KindOk at h; simp only [] at h; (rcases h with h | h | h | h | h | h | h <;> first | omega | (rw [HY.out] at h; simp at h)))))
        go_wp2
        go_returns
        exact Ret.mk (.refl I) HS1.out.drop ⟨rfl, congrArg Value.bool HE.out.symm, rfl⟩
    · skip
      go_wp2
      go_meet
      exact ⟨HS1.out, .inr (.inr (.inr (.inr (.inr (.inl rfl)))))⟩
    · skip
      have HC := Lib.hid (withinC (wants.length : Int) 1 8 W)
      go_wp2_with fail
      go_at_call 19
      refine HC.out.mono ?_
      rintro e w2 ⟨rfl, hw⟩
      subst hw
      cases hb : withinB (wants.length : Int) 1 8
      · have HY := Lib.hid (within_no hb)
        have HE := Lib.hid (HSS.out.trans (goodB_bad (fun h => by unfold KindOk at h; simp only [] at h; have := HY.out; omega)))
        go_wp2
        go_returns
        exact Ret.mk (.refl I) HS1.out.drop ⟨rfl, congrArg Value.bool HE.out.symm, rfl⟩
      · have HY := Lib.hid (within_yes hb)
        go_wp2
        go_meet
        exact ⟨HS1.out, .inr (.inr (.inr (.inr (.inr (.inr ⟨rfl, by have := HY.out; show 1 ≤ wants.length; omega, by have := HY.out; show wants.length ≤ 8; omega⟩)))))⟩
    · skip
      have HK := Lib.hid (show ¬ KindOk (⟨kind, sender, media, ntp, rtp, pkts, octs, reps, name, srcs, seqs, base, ref, count, arrs, wants⟩ : Pk) from by unfold KindOk; simp only []; omega)
      have g1 : (kind == 1) = false := beq_eq_false_iff_ne.2 k1
      have g2 : (kind == 2) = false := beq_eq_false_iff_ne.2 k2
      have g3 : (kind == 3) = false := beq_eq_false_iff_ne.2 k3
      have g4 : (kind == 4) = false := beq_eq_false_iff_ne.2 k4
      have g5 : (kind == 5) = false := beq_eq_false_iff_ne.2 k5
      have g6 : (kind == 6) = false := beq_eq_false_iff_ne.2 k6
      have g7 : (kind == 7) = false := beq_eq_false_iff_ne.2 k7
      have g8 : (kind == 8) = false := beq_eq_false_iff_ne.2 k8
      have HE := Lib.hid (HSS.out.trans (goodB_bad HK.out))
      go_wp2
      go_returns
      exact Ret.mk (.refl I) HS1.out.drop ⟨rfl, congrArg Value.bool HE.out.symm, rfl⟩
  case rest =>
    obtain ⟨hs, hok⟩ := hcut
    have HE := Lib.hid (HSS.out.trans (goodB_same hok).symm)
    have hb1 : Blk wc q1 51 #[.int .i64 kind, .int .u32 sender, .int .u32 media, .int .u64 ntp, .int .u32 rtp, .int .u32 pkts, .int .u32 octs, .slice rA reps.length rz, .string name, .slice sA srcs.length sz, .slice qA seqs.length qz, .int .u16 base, .int .u32 ref, .int .u8 count, .slice aA arrs.length az, .slice wA wants.length wz] := hs.at 0 rfl
    have HC := Lib.hid (cleanC I _ wc kind sender media ntp rtp pkts octs base ref count name reps srcs seqs arrs wants rA rz sA sz qA qz aA az wA wz hs)
    clear hs hok HS1
    go_wp2_with (refine wpList_load_row rfl 51 (.tmp 1) rfl q1 rfl 51 _ (0, 0) _ hb1 hd rfl st51I ?_)
    go_at_call 46
    refine HC.out.mono ?_
    rintro e w2 ⟨_, _, _, rfl, _, hs, rfl, rfl, rfl⟩
    have HS2 := Lib.hid hs
    clear hs HC hb1
    go_wp2
    go_returns
    exact Ret.mk (.refl I) HS2.out.drop ⟨rfl, congrArg Value.bool HE.out.symm, rfl⟩
end Go.Proofs.Ytddopbbmgpnjjaa
