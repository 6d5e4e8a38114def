/- clean: a packet is what its kind names. -/
import Derived.Test.YtddopbbmgpnjjaaRcG
namespace Go.Proofs.Ytddopbbmgpnjjaa
open Go.RowKit
set_option linter.unusedSimpArgs false

theorem len_if {α : Type} (c : Prop) [Decidable c] (l : List α) : ((l.length : Int) == ((if c then l.length else 0 : Nat) : Int)) = true ↔ l = (if c then l else []) := by
  by_cases h : c
  · simp [h]
  · simp [h]
theorem cleanE (kind : Int) (sender : Int) (media : Int) (ntp : Int) (rtp : Int) (pkts : Int) (octs : Int) (base : Int) (ref : Int) (count : Int) (name : ByteArray) (reps : List Rp) (srcs seqs arrs : List Int) (wants : List Wn) : ((sender == (if kind = 4 then 0 else sender)) && (media == (if 5 ≤ kind then media else 0)) && (ntp == (if kind = 1 then ntp else 0)) && (rtp == (if kind = 1 then rtp else 0)) && (pkts == (if kind = 1 then pkts else 0)) && (octs == (if kind = 1 then octs else 0)) && (name.toList == (if kind = 3 then name else ⟨#[]⟩ : ByteArray).toList) && (base == (if kind = 6 then base else 0)) && (ref == (if kind = 6 then ref else 0)) && (count == (if kind = 6 then count else 0)) && ((reps.length : Int) == ((if kind = 1 ∨ kind = 2 then reps.length else 0 : Nat) : Int)) && ((srcs.length : Int) == ((if kind = 4 then srcs.length else 0 : Nat) : Int)) && ((seqs.length : Int) == ((if kind = 5 then seqs.length else 0 : Nat) : Int)) && ((arrs.length : Int) == ((if kind = 6 then arrs.length else 0 : Nat) : Int)) && ((wants.length : Int) == ((if kind = 8 then wants.length else 0 : Nat) : Int))) = sameB ⟨kind, sender, media, ntp, rtp, pkts, octs, reps, name, srcs, seqs, base, ref, count, arrs, wants⟩ (onlyP ⟨kind, sender, media, ntp, rtp, pkts, octs, reps, name, srcs, seqs, base, ref, count, arrs, wants⟩) := by
  have key : ((sender == (if kind = 4 then 0 else sender)) && (media == (if 5 ≤ kind then media else 0)) && (ntp == (if kind = 1 then ntp else 0)) && (rtp == (if kind = 1 then rtp else 0)) && (pkts == (if kind = 1 then pkts else 0)) && (octs == (if kind = 1 then octs else 0)) && (name.toList == (if kind = 3 then name else ⟨#[]⟩ : ByteArray).toList) && (base == (if kind = 6 then base else 0)) && (ref == (if kind = 6 then ref else 0)) && (count == (if kind = 6 then count else 0)) && ((reps.length : Int) == ((if kind = 1 ∨ kind = 2 then reps.length else 0 : Nat) : Int)) && ((srcs.length : Int) == ((if kind = 4 then srcs.length else 0 : Nat) : Int)) && ((seqs.length : Int) == ((if kind = 5 then seqs.length else 0 : Nat) : Int)) && ((arrs.length : Int) == ((if kind = 6 then arrs.length else 0 : Nat) : Int)) && ((wants.length : Int) == ((if kind = 8 then wants.length else 0 : Nat) : Int))) = true ↔ (⟨kind, sender, media, ntp, rtp, pkts, octs, reps, name, srcs, seqs, base, ref, count, arrs, wants⟩ : Pk) = onlyP ⟨kind, sender, media, ntp, rtp, pkts, octs, reps, name, srcs, seqs, base, ref, count, arrs, wants⟩ := by
    simp only [Bool.and_eq_true, len_if]
    simp only [beq_iff_eq, ByteArray.toList_eq]
    unfold onlyP
    constructor
    · rintro ⟨⟨⟨⟨⟨⟨⟨⟨⟨⟨⟨⟨⟨⟨h1, h2⟩, h3⟩, h4⟩, h5⟩, h6⟩, h7⟩, h8⟩, h9⟩, h10⟩, h11⟩, h12⟩, h13⟩, h14⟩, h15⟩
      simp only [Pk.mk.injEq, true_and]
      exact ⟨h1, h2, h3, h4, h5, h6, h11, ls_inj h7, h12, h13, h8, h9, h10, h14, h15⟩
    · intro h
      simp only [Pk.mk.injEq, true_and] at h
      obtain ⟨h1, h2, h3, h4, h5, h6, h11, h7, h12, h13, h8, h9, h10, h14, h15⟩ := h
      exact ⟨⟨⟨⟨⟨⟨⟨⟨⟨⟨⟨⟨⟨⟨h1, h2⟩, h3⟩, h4⟩, h5⟩, h6⟩, congrArg (fun s : ByteArray => s.data.toList) h7⟩, h8⟩, h9⟩, h10⟩, h11⟩, h12⟩, h13⟩, h14⟩, h15⟩
  by_cases h : (⟨kind, sender, media, ntp, rtp, pkts, octs, reps, name, srcs, seqs, base, ref, count, arrs, wants⟩ : Pk) = onlyP ⟨kind, sender, media, ntp, rtp, pkts, octs, reps, name, srcs, seqs, base, ref, count, arrs, wants⟩
  · rw [sameB_yes h]; exact key.2 h
  · rw [sameB_no h, Bool.eq_false_iff]; exact fun e => h (key.1 e)
theorem cleanC (I : Img) (M : List Res) (w : World) (kind : Int) (sender : Int) (media : Int) (ntp : Int) (rtp : Int) (pkts : Int) (octs : Int) (base : Int) (ref : Int) (count : Int) (name : ByteArray) (reps : List Rp) (srcs seqs arrs : List Int) (wants : List Wn) (rA : Option Addr) (rz : Nat) (sA : Option Addr) (sz : Nat) (qA : Option Addr) (qz : Nat) (aA : Option Addr) (az : Nat) (wA : Option Addr) (wz : Nat) (hst : St I M w) :
    Calls Try.prog 46 #[.agg #[.int .i64 kind, .int .u32 sender, .int .u32 media, .int .u64 ntp, .int .u32 rtp, .int .u32 pkts, .int .u32 octs, .slice rA reps.length rz, .string name, .slice sA srcs.length sz, .slice qA seqs.length qz, .int .u16 base, .int .u32 ref, .int .u8 count, .slice aA arrs.length az, .slice wA wants.length wz]] w (Ret I (fun u J M' => I = J ∧ u = .bool (sameB ⟨kind, sender, media, ntp, rtp, pkts, octs, reps, name, srcs, seqs, base, ref, count, arrs, wants⟩ (onlyP ⟨kind, sender, media, ntp, rtp, pkts, octs, reps, name, srcs, seqs, base, ref, count, arrs, wants⟩)) ∧ M' = M)) := by
  have h := clean46 I M w kind sender media ntp rtp pkts octs rA reps.length rz name sA srcs.length sz qA seqs.length qz base ref count aA arrs.length az wA wants.length wz kind (if kind = 4 then 0 else sender) (if 5 ≤ kind then media else 0) (if kind = 1 then ntp else 0) (if kind = 1 then rtp else 0) (if kind = 1 then pkts else 0) (if kind = 1 then octs else 0) (if kind = 1 ∨ kind = 2 then rA else none) (if kind = 1 ∨ kind = 2 then reps.length else 0) (if kind = 1 ∨ kind = 2 then rz else 0) (if kind = 3 then name else ⟨#[]⟩) (if kind = 4 then sA else none) (if kind = 4 then srcs.length else 0) (if kind = 4 then sz else 0) (if kind = 5 then qA else none) (if kind = 5 then seqs.length else 0) (if kind = 5 then qz else 0) (if kind = 6 then base else 0) (if kind = 6 then ref else 0) (if kind = 6 then count else 0) (if kind = 6 then aA else none) (if kind = 6 then arrs.length else 0) (if kind = 6 then az else 0) (if kind = 8 then wA else none) (if kind = 8 then wants.length else 0) (if kind = 8 then wz else 0) hst (Lib.hid (fun M1 w1 hs => only69 I M1 w1 kind sender media ntp rtp pkts octs rA reps.length rz name sA srcs.length sz qA seqs.length qz base ref count aA arrs.length az wA wants.length wz hs))
  rw [cleanE] at h
  exact h
end Go.Proofs.Ytddopbbmgpnjjaa
