/- the document's build: words. -/
import Derived.Test.YtddopbbmgpnjjaaRdG
namespace Go.Proofs.Ytddopbbmgpnjjaa
open Go.RowKit
set_option linter.unusedSimpArgs false

/-- a packet's bytes come back, owned -/
def Bui (I : Img) (M : List Res) (p : Pk) : Ending → World → Prop := Ret I (fun v _ M' => ∃ A c, v = .slice A (packB p).length c ∧ M' = row 5 1 v (packB p).length (bvs (packB p)) :: M)
def sliceLen : Value → Nat
  | .slice _ n _ => n
  | _ => 0
theorem frz_cast {I : Img} {M : List Res} {l l' : List UInt8} {f : Nat} {args : Array Value} {w : World} (h : l' = l) (hc : Calls Try.prog f args w (Frz I M l)) : Calls Try.prog f args w (Frz I M l') := h ▸ hc
theorem lit_two {a b : Int} (ha : 0 ≤ a ∧ a < 256) (hb : 0 ≤ b ∧ b < 256) : (#[Value.int .u8 a, .int .u8 b] : Array Value).toList = bvs [byteOf a, byteOf b] := by
  simp only [bvs, List.map_cons, List.map_nil]
  rw [bv_byteOf ha.1 ha.2, bv_byteOf hb.1 hb.2]
theorem even_rep (l : List UInt8) : l ++ List.replicate ((4 - l.length % 4) % 4) 0 = evenL l := rfl
theorem low1 {sender media ntp rtp pkts octs base ref count : Int} {name : ByteArray} {reps : List Rp} {srcs seqs arrs : List Int} {wants : List Wn} (hg : Good (⟨1, sender, media, ntp, rtp, pkts, octs, reps, name, srcs, seqs, base, ref, count, arrs, wants⟩ : Pk)) : lowP (⟨1, sender, media, ntp, rtp, pkts, octs, reps, name, srcs, seqs, base, ref, count, arrs, wants⟩ : Pk) = (reps.length : Int) := by
  have h2 : srcs = [] := by have := congrArg Pk.srcs hg.2; simpa [onlyP] using this
  subst h2
  simp [lowP, whereP]
theorem low2 {sender media ntp rtp pkts octs base ref count : Int} {name : ByteArray} {reps : List Rp} {srcs seqs arrs : List Int} {wants : List Wn} (hg : Good (⟨2, sender, media, ntp, rtp, pkts, octs, reps, name, srcs, seqs, base, ref, count, arrs, wants⟩ : Pk)) : lowP (⟨2, sender, media, ntp, rtp, pkts, octs, reps, name, srcs, seqs, base, ref, count, arrs, wants⟩ : Pk) = (reps.length : Int) := by
  have h2 : srcs = [] := by have := congrArg Pk.srcs hg.2; simpa [onlyP] using this
  subst h2
  simp [lowP, whereP]
theorem low4 {sender media ntp rtp pkts octs base ref count : Int} {name : ByteArray} {reps : List Rp} {srcs seqs arrs : List Int} {wants : List Wn} (hg : Good (⟨4, sender, media, ntp, rtp, pkts, octs, reps, name, srcs, seqs, base, ref, count, arrs, wants⟩ : Pk)) : lowP (⟨4, sender, media, ntp, rtp, pkts, octs, reps, name, srcs, seqs, base, ref, count, arrs, wants⟩ : Pk) = (srcs.length : Int) := by
  have h2 : reps = [] := by have := congrArg Pk.reps hg.2; simpa [onlyP] using this
  subst h2
  simp [lowP, whereP]
theorem wrap_u8 {x : Int} (h0 : 0 ≤ x) (h1 : x ≤ 255) : IntKind.u8.wrap x = x := by
  simp only [IntKind.wrap, IntKind.signed, IntKind.bits]
  simp
  omega
theorem body3 {sender media ntp rtp pkts octs base ref count : Int} {name : ByteArray} {reps : List Rp} {srcs seqs arrs : List Int} {wants : List Wn} (hg : Good (⟨3, sender, media, ntp, rtp, pkts, octs, reps, name, srcs, seqs, base, ref, count, arrs, wants⟩ : Pk)) :
    ([u32B sender, [byteOf 1, byteOf name.size], ls name, [byteOf 0]] : List (List UInt8)).flatten = bodyL (⟨3, sender, media, ntp, rtp, pkts, octs, reps, name, srcs, seqs, base, ref, count, arrs, wants⟩ : Pk) := by
  have h1 : reps = [] := by have := congrArg Pk.reps hg.2; simpa [onlyP] using this
  have h2 : srcs = [] := by have := congrArg Pk.srcs hg.2; simpa [onlyP] using this
  have h5 : wants = [] := by have := congrArg Pk.wants hg.2; simpa [onlyP] using this
  subst h1 h2 h5
  simp [bodyL, kindL, u32Bs, ls]
theorem lit_four {x : Int} (h0 : 0 ≤ x) (h1 : x < 256) : (#[Value.int .u8 x, .int .u8 0, .int .u8 0, .int .u8 0] : Array Value).toList = bvs [byteOf x, byteOf 0, byteOf 0, byteOf 0] := by
  simp only [bvs, List.map_cons, List.map_nil]
  rw [bv_byteOf h0 h1]
  rfl
theorem wn_four {x : Wn} (_ : 0 ≤ x.seq) (_ : x.seq ≤ 255) : u32B x.src ++ [byteOf x.seq, byteOf 0, byteOf 0, byteOf 0] = wnL x := by
  unfold wnL
  congr 1
  unfold u32B
  have e1 : x.seq * 16777216 / 16777216 = x.seq := by omega
  have e2 : x.seq * 16777216 / 65536 % 256 = 0 := by omega
  have e3 : x.seq * 16777216 / 256 % 256 = 0 := by omega
  have e4 : x.seq * 16777216 % 256 = 0 := by omega
  rw [e1, e2, e3, e4]
theorem body4 {sender media ntp rtp pkts octs base ref count : Int} {name : ByteArray} {reps : List Rp} {srcs seqs arrs : List Int} {wants : List Wn} (hg : Good (⟨4, sender, media, ntp, rtp, pkts, octs, reps, name, srcs, seqs, base, ref, count, arrs, wants⟩ : Pk)) :
    srcs.flatMap u32B = bodyL (⟨4, sender, media, ntp, rtp, pkts, octs, reps, name, srcs, seqs, base, ref, count, arrs, wants⟩ : Pk) := by
  have h1 : reps = [] := by have := congrArg Pk.reps hg.2; simpa [onlyP] using this
  have h5 : wants = [] := by have := congrArg Pk.wants hg.2; simpa [onlyP] using this
  subst h1 h5
  simp [bodyL, kindL, u32Bs]
theorem body8 {sender media ntp rtp pkts octs base ref count : Int} {name : ByteArray} {reps : List Rp} {srcs seqs arrs : List Int} {wants : List Wn} (hg : Good (⟨8, sender, media, ntp, rtp, pkts, octs, reps, name, srcs, seqs, base, ref, count, arrs, wants⟩ : Pk)) :
    ([u32B sender, u32B media] : List (List UInt8)).flatten ++ wants.flatMap wnL = bodyL (⟨8, sender, media, ntp, rtp, pkts, octs, reps, name, srcs, seqs, base, ref, count, arrs, wants⟩ : Pk) := by
  have h1 : reps = [] := by have := congrArg Pk.reps hg.2; simpa [onlyP] using this
  have h2 : srcs = [] := by have := congrArg Pk.srcs hg.2; simpa [onlyP] using this
  subst h1 h2
  simp [bodyL, kindL, u32Bs]
theorem body2 {sender media ntp rtp pkts octs base ref count : Int} {name : ByteArray} {reps : List Rp} {srcs seqs arrs : List Int} {wants : List Wn} {rb : List UInt8} (hg : Good (⟨2, sender, media, ntp, rtp, pkts, octs, reps, name, srcs, seqs, base, ref, count, arrs, wants⟩ : Pk)) (hr : rb = reps.flatMap repL) :
    ([u32B sender, rb] : List (List UInt8)).flatten = bodyL (⟨2, sender, media, ntp, rtp, pkts, octs, reps, name, srcs, seqs, base, ref, count, arrs, wants⟩ : Pk) := by
  have h2 : srcs = [] := by have := congrArg Pk.srcs hg.2; simpa [onlyP] using this
  have h5 : wants = [] := by have := congrArg Pk.wants hg.2; simpa [onlyP] using this
  subst h2 h5 hr
  simp [bodyL, kindL, u32Bs]
theorem body1 {sender media ntp rtp pkts octs base ref count : Int} {name : ByteArray} {reps : List Rp} {srcs seqs arrs : List Int} {wants : List Wn} {rb : List UInt8} (hg : Good (⟨1, sender, media, ntp, rtp, pkts, octs, reps, name, srcs, seqs, base, ref, count, arrs, wants⟩ : Pk)) (hr : rb = reps.flatMap repL) :
    ([u32B sender, u32B (ntp / 4294967296), u32B (ntp % 4294967296), u32B rtp, u32B pkts, u32B octs, rb] : List (List UInt8)).flatten = bodyL (⟨1, sender, media, ntp, rtp, pkts, octs, reps, name, srcs, seqs, base, ref, count, arrs, wants⟩ : Pk) := by
  have h2 : srcs = [] := by have := congrArg Pk.srcs hg.2; simpa [onlyP] using this
  have h5 : wants = [] := by have := congrArg Pk.wants hg.2; simpa [onlyP] using this
  subst h2 h5 hr
  simp [bodyL, kindL, u32Bs]
theorem body5 {sender media ntp rtp pkts octs base ref count : Int} {name : ByteArray} {reps : List Rp} {srcs seqs arrs : List Int} {wants : List Wn} (hg : Good (⟨5, sender, media, ntp, rtp, pkts, octs, reps, name, srcs, seqs, base, ref, count, arrs, wants⟩ : Pk)) :
    ([u32B sender, u32B media, piecesB seqs] : List (List UInt8)).flatten = bodyL (⟨5, sender, media, ntp, rtp, pkts, octs, reps, name, srcs, seqs, base, ref, count, arrs, wants⟩ : Pk) := by
  have h1 : reps = [] := by have := congrArg Pk.reps hg.2; simpa [onlyP] using this
  have h2 : srcs = [] := by have := congrArg Pk.srcs hg.2; simpa [onlyP] using this
  have h5 : wants = [] := by have := congrArg Pk.wants hg.2; simpa [onlyP] using this
  subst h1 h2 h5
  simp [bodyL, kindL, u32Bs]
theorem body6 {sender media ntp rtp pkts octs base ref count : Int} {name : ByteArray} {reps : List Rp} {srcs seqs arrs : List Int} {wants : List Wn} (hg : Good (⟨6, sender, media, ntp, rtp, pkts, octs, reps, name, srcs, seqs, base, ref, count, arrs, wants⟩ : Pk)) (hok : PkOk (⟨6, sender, media, ntp, rtp, pkts, octs, reps, name, srcs, seqs, base, ref, count, arrs, wants⟩ : Pk)) (hl : arrs.length ≤ 255) :
    ([u32B sender, u32B media, u16B (base % 65536), u16B ((arrs.length : Int) % 65536), u32B (ref * 256 + count), arrsL arrs] : List (List UInt8)).flatten = bodyL (⟨6, sender, media, ntp, rtp, pkts, octs, reps, name, srcs, seqs, base, ref, count, arrs, wants⟩ : Pk) := by
  have h1 : reps = [] := by have := congrArg Pk.reps hg.2; simpa [onlyP] using this
  have h2 : srcs = [] := by have := congrArg Pk.srcs hg.2; simpa [onlyP] using this
  have h5 : wants = [] := by have := congrArg Pk.wants hg.2; simpa [onlyP] using this
  have hb := hok.base
  simp only [] at hb
  have e1 : base % 65536 = base := by omega
  have e2 : (arrs.length : Int) % 65536 = arrs.length := by omega
  subst h1 h2 h5
  rw [e1, e2]
  simp [bodyL, kindL, u32Bs]
theorem body7 {sender media ntp rtp pkts octs base ref count : Int} {name : ByteArray} {reps : List Rp} {srcs seqs arrs : List Int} {wants : List Wn} (hg : Good (⟨7, sender, media, ntp, rtp, pkts, octs, reps, name, srcs, seqs, base, ref, count, arrs, wants⟩ : Pk)) :
    ([u32B sender, u32B media] : List (List UInt8)).flatten = bodyL (⟨7, sender, media, ntp, rtp, pkts, octs, reps, name, srcs, seqs, base, ref, count, arrs, wants⟩ : Pk) := by
  have h1 : reps = [] := by have := congrArg Pk.reps hg.2; simpa [onlyP] using this
  have h2 : srcs = [] := by have := congrArg Pk.srcs hg.2; simpa [onlyP] using this
  have h5 : wants = [] := by have := congrArg Pk.wants hg.2; simpa [onlyP] using this
  subst h1 h2 h5
  simp [bodyL, kindL, u32Bs]
end Go.Proofs.Ytddopbbmgpnjjaa
