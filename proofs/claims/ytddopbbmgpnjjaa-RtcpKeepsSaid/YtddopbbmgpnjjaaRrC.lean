/- packets' bytes, kind by kind; what a reader makes of an element's bytes. -/
import Derived.Test.YtddopbbmgpnjjaaRcY
import Derived.Test.YtddopbbmgpnjjaaRdK
import Derived.Test.YtddopbbmgpnjjaaRdF
import Derived.Test.YtddopbbmgpnjjaaSoE
namespace Go.Proofs.Ytddopbbmgpnjjaa
open Go.RowKit
set_option linter.unusedSimpArgs false

def matchB (f s k : Int) : Bool := decide ((whereP k).1 = s) && (decide ((whereP k).2 < 0) || decide ((whereP k).2 = f % 32))
def kindP (f s : Int) : Int := if matchB f s 1 then 1 else if matchB f s 2 then 2 else if matchB f s 3 then 3 else if matchB f s 4 then 4 else if matchB f s 5 then 5 else if matchB f s 6 then 6 else if matchB f s 7 then 7 else if matchB f s 8 then 8 else 0
theorem kindP_ways (f s : Int) : kindP f s = 0 ∨ kindP f s = 1 ∨ kindP f s = 2 ∨ kindP f s = 3 ∨ kindP f s = 4 ∨ kindP f s = 5 ∨ kindP f s = 6 ∨ kindP f s = 7 ∨ kindP f s = 8 := by
  unfold kindP
  repeat' split
  all_goals simp
theorem kindP_hit {f s : Int} {k : Nat} (hk : 1 ≤ k ∧ k ≤ 8) (hno : ∀ j : Nat, 1 ≤ j → j < k → matchB f s j = false) (h : matchB f s k = true) : kindP f s = k := by
  have hw : k = 1 ∨ k = 2 ∨ k = 3 ∨ k = 4 ∨ k = 5 ∨ k = 6 ∨ k = 7 ∨ k = 8 := by omega
  have n1 : 1 < k → matchB f s 1 = false := hno 1 (by omega)
  have n2 : 2 < k → matchB f s 2 = false := hno 2 (by omega)
  have n3 : 3 < k → matchB f s 3 = false := hno 3 (by omega)
  have n4 : 4 < k → matchB f s 4 = false := hno 4 (by omega)
  have n5 : 5 < k → matchB f s 5 = false := hno 5 (by omega)
  have n6 : 6 < k → matchB f s 6 = false := hno 6 (by omega)
  have n7 : 7 < k → matchB f s 7 = false := hno 7 (by omega)
  unfold kindP
  rcases hw with rfl | rfl | rfl | rfl | rfl | rfl | rfl | rfl <;> simp at n1 n2 n3 n4 n5 n6 n7 h <;> simp [n1, n2, n3, n4, n5, n6, n7, h]
theorem kindP_none {f s : Int} (hno : ∀ j : Nat, 1 ≤ j → j < 9 → matchB f s j = false) : kindP f s = 0 := by
  have n1 := hno 1 (by omega) (by omega)
  have n2 := hno 2 (by omega) (by omega)
  have n3 := hno 3 (by omega) (by omega)
  have n4 := hno 4 (by omega) (by omega)
  have n5 := hno 5 (by omega) (by omega)
  have n6 := hno 6 (by omega) (by omega)
  have n7 := hno 7 (by omega) (by omega)
  have n8 := hno 8 (by omega) (by omega)
  simp at n1 n2 n3 n4 n5 n6 n7 n8
  unfold kindP
  simp [n1, n2, n3, n4, n5, n6, n7, n8]
theorem and_31 {f : Int} (h0 : 0 ≤ f) (h1 : f ≤ 255) : bits BinOp.and IntKind.u8 f 31 = f % 32 := by
  have : ∀ k : Fin 256, bits BinOp.and IntKind.u8 (k.1 : Int) 31 = (k.1 : Int) % 32 := by decide +kernel
  have := this ⟨f.toNat, by omega⟩
  simp only [] at this
  rw [show ((f.toNat : Nat) : Int) = f from by omega] at this
  exact this
set_option maxRecDepth 8000 in
set_option maxHeartbeats 4000000 in
theorem kindC (f s : Int) (w : World) (hf : 0 ≤ f ∧ f ≤ 255) : Calls Try.prog 61 #[.int .u8 f, .int .u8 s] w fun e w' => e = .returned (.int .i64 (kindP f s)) ∧ w = w' := by
  have hand := and_31 hf.1 hf.2
  obtain ⟨lo, hlo⟩ : ∃ lo, lo = f % 32 := ⟨_, rfl⟩
  rw [← hlo] at hand
  have hl1 : 0 ≤ lo := by omega
  have hl2 : lo ≤ 31 := by omega
  have HLO := Lib.hid hlo
  clear hlo hf
  go_enter Try.func61, Try.ntmps61
  go_upto_region 2 with fail
  go_loopw [5] (fun kv wr => ∃ k : Nat, kv = .int .i64 k ∧ 1 ≤ k ∧ k ≤ 9 ∧ wr = w ∧ Hid (∀ j : Nat, 1 ≤ j → j < k → matchB f s j = false)) (fun kv _ => 9 - (intOf kv).toNat)
  case atStart => exact ⟨1, by go_num, by omega, by omega, rfl, Lib.hid (fun j h1 h2 => by omega)⟩
  case round =>
    obtain ⟨k, rfl, hk1, hk9, hwr, HNO⟩ := hrel
    subst hwr
    by_cases hk8 : k ≤ 8
    · have hk8i : (k : Int) ≤ 8 := by omega
      have HW := whereC k wr
      obtain ⟨a, ha⟩ : ∃ a, a = (whereP k).1 := ⟨_, rfl⟩
      obtain ⟨b, hb⟩ : ∃ b, b = (whereP k).2 := ⟨_, rfl⟩
      rw [← ha, ← hb] at HW
      have HAB := Lib.hid (And.intro ha hb)
      have HW := Lib.hid HW
      clear ha hb
      by_cases h1 : a = s
      · have h1b : (a == s) = true := by simpa using h1
        by_cases h2 : b < 0
        · have HK := Lib.hid (show kindP f s = k from kindP_hit ⟨hk1, hk8⟩ HNO.out (by unfold matchB; rw [← HAB.out.1, ← HAB.out.2, decide_eq_true h1, decide_eq_true h2]; rfl))
          subst h1
          clear HNO
          go_wp2_with (go_at_call 47; refine HW.out.mono ?_; clear HW; rintro e w2 ⟨rfl, hw⟩; subst hw)
          go_returns
          exact ⟨by rw [HK.out]; rfl, rfl⟩
        · have h2b : (b < 0) = False := eq_false h2
          by_cases h3 : b = lo
          · have h3b : (b == lo) = true := by simpa using h3
            have HK := Lib.hid (show kindP f s = k from kindP_hit ⟨hk1, hk8⟩ HNO.out (by unfold matchB; rw [← HAB.out.1, ← HAB.out.2, ← HLO.out, decide_eq_true h1, decide_eq_false h2, decide_eq_true h3]; rfl))
            clear HNO
            go_wp2_with (go_at_call 47; refine HW.out.mono ?_; clear HW; rintro e w2 ⟨rfl, hw⟩; subst hw)
            go_returns
            exact ⟨by rw [HK.out]; rfl, rfl⟩
          · have h3b : (b == lo) = false := by simpa using h3
            have HM := Lib.hid (show matchB f s k = false by unfold matchB; rw [← HAB.out.1, ← HAB.out.2, ← HLO.out, decide_eq_true h1, decide_eq_false h2, decide_eq_false h3]; rfl)
            go_wp2_with (go_at_call 47; refine HW.out.mono ?_; clear HW; rintro e w2 ⟨rfl, hw⟩; subst hw)
            go_roundw
            case rel =>
              refine ⟨k + 1, by go_num, by omega, by omega, by first | rfl | trivial, Lib.hid (fun j j1 j2 => ?_)⟩
              by_cases e : j = k
              · subst e; exact HM.out
              · exact HNO.out j j1 (by omega)
            case measure => simp [intOf]; omega
      · have h1b : (a == s) = false := by simpa using h1
        have HM := Lib.hid (show matchB f s k = false by unfold matchB; rw [← HAB.out.1, decide_eq_false h1]; rfl)
        go_wp2_with (go_at_call 47; refine HW.out.mono ?_; clear HW; rintro e w2 ⟨rfl, hw⟩; subst hw)
        go_roundw
        case rel =>
          refine ⟨k + 1, by go_num, by omega, by omega, by first | rfl | trivial, Lib.hid (fun j j1 j2 => ?_)⟩
          by_cases e : j = k
          · subst e; exact HM.out
          · exact HNO.out j j1 (by omega)
        case measure => simp [intOf]; omega
    · have hk8i : ¬ (k : Int) ≤ 8 := by omega
      have HK := Lib.hid (show kindP f s = 0 from kindP_none (fun j j1 j2 => HNO.out j j1 (by omega)))
      clear HNO
      go_wp2
      go_returns
      exact ⟨by rw [HK.out]; rfl, rfl⟩
end Go.Proofs.Ytddopbbmgpnjjaa
namespace Go.Proofs.Ytddopbbmgpnjjaa
open Go.RowKit
set_option linter.unusedSimpArgs false

theorem byteOf_nat {n : Int} (h0 : 0 ≤ n) (h1 : n < 256) : ((byteOf n).toNat : Int) = n := by
  have := bv_byteOf h0 h1
  unfold bv at this
  injection this
theorem cut_app (a t : List UInt8) (n : Int) (hn : n = a.length) : cutS n (a ++ t, false) = (a, (t, false)) := by
  subst hn
  unfold cutS
  rw [if_neg (by simp; omega)]
  simp
theorem nm_u32 {x : Int} (h0 : 0 ≤ x) (h1 : x ≤ 4294967295) : ((numL (u32B x) : Nat) : Int) = x := by
  unfold u32B numL
  simp only [List.foldl_cons, List.foldl_nil]
  have a1 := byteOf_nat (n := x / 16777216) (by omega) (by omega)
  have a2 := byteOf_nat (n := x / 65536 % 256) (by omega) (by omega)
  have a3 := byteOf_nat (n := x / 256 % 256) (by omega) (by omega)
  have a4 := byteOf_nat (n := x % 256) (by omega) (by omega)
  omega
theorem nm_u16 {x : Int} (h0 : 0 ≤ x) (h1 : x ≤ 65535) : ((numL (u16B x) : Nat) : Int) = x := by
  unfold u16B numL
  simp only [List.foldl_cons, List.foldl_nil]
  have a1 := byteOf_nat (n := x / 256) (by omega) (by omega)
  have a2 := byteOf_nat (n := x % 256) (by omega) (by omega)
  omega
theorem nm_u8 {x : Int} (h0 : 0 ≤ x) (h1 : x ≤ 255) : ((numL [byteOf x] : Nat) : Int) = x := by
  unfold numL
  simp only [List.foldl_cons, List.foldl_nil]
  have a1 := byteOf_nat (n := x) (by omega) (by omega)
  omega
theorem nm_rng (n : Int) (r : RS) (k : Nat) (hk : n ≤ k) : 0 ≤ ((numL (cutS n r).1 : Nat) : Int) ∧ ((numL (cutS n r).1 : Nat) : Int) < ((256 ^ k : Nat) : Int) := by
  have h1 := numL_lt (cutS n r).1
  have h2 := cutS_len n r k hk
  have h3 : 256 ^ (cutS n r).1.length ≤ 256 ^ k := Nat.pow_le_pow_right (by decide) h2
  omega
/-- numbers that lie in a block of the call's own -/
def SeqNew (J0 : Img) (M : List Res) (J : Img) (v : Value) : Prop := ∃ g n c cs, v = .slice (some ⟨g, 0, none⟩) n c ∧ J.obj g = some (.cells cs 42 (0, 0)) ∧ J0.obj g = none ∧ ∀ r ∈ M, r.blk ≠ some g
/-- what a read of a packet answers: some packet, and the one that is meant, if one is -/
def RdOk (I : Img) (M : List Res) (T : Pk → Prop) (e : Ending) (w' : World) : Prop :=
  ∃ J pk vs, e = .returned (.agg (pkC pk vs)) ∧ I.le J ∧ St J M w' ∧ PkIn J pk vs ∧ PkRaw pk ∧ (pk.seqs = [] ∨ SeqNew I M J vs.q) ∧ ∀ p, T p → pk = p
theorem raw_zero (k a b : Int) (ha : 0 ≤ a ∧ a ≤ 4294967295) (hb : 0 ≤ b ∧ b ≤ 4294967295) : PkRaw (⟨k, a, b, 0, 0, 0, 0, [], ⟨#[]⟩, [], [], 0, 0, 0, [], []⟩ : Pk) := by
  refine ⟨ha, hb, ?_, ?_, ?_, ?_, ?_, ?_, ?_, ?_, ?_, ?_, ?_, ?_, ?_, ?_, ?_, ?_, ?_, ?_, ?_, ?_, ?_, ?_⟩ <;> first | (simp; done) | exact Nat.zero_le _
abbrev aVs0 : Vs := ⟨nilV, nilV, nilV, nilV, nilV⟩
theorem in_zero (I : Img) (k a b : Int) : PkIn I (⟨k, a, b, 0, 0, 0, 0, [], ⟨#[]⟩, [], [], 0, 0, 0, [], []⟩ : Pk) aVs0 := ⟨SlC.nil I _, SlC.nil I _, SlC.nil I _, SlC.nil I _, SlC.nil I _⟩
theorem rd4 {x : Int} (hx : 0 ≤ x ∧ x ≤ 4294967295) (t : List UInt8) : ((numL (cutS 4 (u32B x ++ t, false)).1 : Nat) : Int) = x ∧ (cutS 4 (u32B x ++ t, false)).2 = (t, false) := by
  rw [cut_app (u32B x) t 4 rfl]
  exact ⟨nm_u32 hx.1 hx.2, rfl⟩
theorem rd2 {x : Int} (hx : 0 ≤ x ∧ x ≤ 65535) (t : List UInt8) : ((numL (cutS 2 (u16B x ++ t, false)).1 : Nat) : Int) = x ∧ (cutS 2 (u16B x ++ t, false)).2 = (t, false) := by
  rw [cut_app (u16B x) t 2 rfl]
  exact ⟨nm_u16 hx.1 hx.2, rfl⟩
theorem rd1 {x : Int} (hx : 0 ≤ x ∧ x ≤ 255) (t : List UInt8) : ((numL (cutS 1 ([byteOf x] ++ t, false)).1 : Nat) : Int) = x ∧ (cutS 1 ([byteOf x] ++ t, false)).2 = (t, false) := by
  rw [cut_app [byteOf x] t 1 rfl]
  exact ⟨nm_u8 hx.1 hx.2, rfl⟩
theorem evenL_of {l : List UInt8} (h : l.length % 4 = 0) : evenL l = l := by
  unfold evenL
  rw [h]
  simp
/-- a packet of kind 7, and its bytes -/
theorem shape7 {p : Pk} (hg : Good p) (hk : p.kind = 7) : p = ⟨7, p.sender, p.media, 0, 0, 0, 0, [], ⟨#[]⟩, [], [], 0, 0, 0, [], []⟩ ∧ evenL (bodyL p) = u32B p.sender ++ (u32B p.media ++ []) := by
  obtain ⟨kind, sender, media, ntp, rtp, pkts, octs, reps, name, srcs, seqs, base, ref, count, arrs, wants⟩ := p
  simp only at hk
  subst hk
  have e := hg.2
  have e1 : (⟨7, sender, media, ntp, rtp, pkts, octs, reps, name, srcs, seqs, base, ref, count, arrs, wants⟩ : Pk) = ⟨7, sender, media, 0, 0, 0, 0, [], ⟨#[]⟩, [], [], 0, 0, 0, [], []⟩ := by
    rw [e]
    simp [onlyP]
  refine ⟨e1, ?_⟩
  rw [e1, evenL_of] <;> simp [bodyL, kindL, u32Bs, u32B_len]
/-- how much a reader can still read -/
def mS (r : RS) : Nat := r.1.length + (if r.2 then 0 else 1)
theorem mS_cut {n : Int} {r : RS} (hn : 0 < n) (hb : r.2 = false) : mS (cutS n r).2 < mS r := by
  unfold mS cutS
  rw [hb]
  split
  · simp
  · rename_i h
    simp at h ⊢
    try omega
/-- the same, out of memory -/
def rdM (w : World) (p : Nat) : Nat := match w.cell? ⟨p, 0, none⟩, w.cell? ⟨p, 1, none⟩ with
  | some (.slice _ n _), some (.bool bd) => n + (if bd then 0 else 1)
  | _, _ => 0
theorem rdM_of {I : Img} {M : List Res} {w : World} {p : Nat} {r : RS} {b : Res} (h : Rdr I p r b) (hs : St I (b :: M) w) : rdM w p = mS r := by
  obtain ⟨A, c, rfl, _, _⟩ := h
  have hb : Blk w p _ #[.slice A r.1.length c, .bool r.2] := hs.head
  unfold rdM mS
  rw [hb.cell 0, hb.cell 1]
  rfl
end Go.Proofs.Ytddopbbmgpnjjaa
namespace Go.Proofs.Ytddopbbmgpnjjaa
open Go.RowKit
set_option linter.unusedSimpArgs false


theorem shape1 {p : Pk} (hg : Good p) (hk : p.kind = 1) : p = ⟨1, p.sender, 0, p.ntp, p.rtp, p.pkts, p.octs, p.reps, ⟨#[]⟩, [], [], 0, 0, 0, [], []⟩ ∧ evenL (bodyL p) = u32B p.sender ++ (u32B (p.ntp / 4294967296) ++ (u32B (p.ntp % 4294967296) ++ (u32B p.rtp ++ (u32B p.pkts ++ (u32B p.octs ++ p.reps.flatMap repL))))) := by
  obtain ⟨kind, sender, media, ntp, rtp, pkts, octs, reps, name, srcs, seqs, base, ref, count, arrs, wants⟩ := p
  simp only at hk
  subst hk
  have e := hg.2
  have e1 : (⟨1, sender, media, ntp, rtp, pkts, octs, reps, name, srcs, seqs, base, ref, count, arrs, wants⟩ : Pk) = ⟨1, sender, 0, ntp, rtp, pkts, octs, reps, ⟨#[]⟩, [], [], 0, 0, 0, [], []⟩ := by
    rw [e]
    simp [onlyP]
  refine ⟨e1, ?_⟩
  rw [e1, evenL_of] <;> simp [bodyL, kindL, u32Bs, u32B_len, fm_len repL_len, fm_len wnL_len, fm_len (f := u32B) (fun _ => u32B_len _), fm_len (f := pieceB) (s := 4) (fun _ => rfl), piecesB] <;> try omega
theorem shape2 {p : Pk} (hg : Good p) (hk : p.kind = 2) : p = ⟨2, p.sender, 0, 0, 0, 0, 0, p.reps, ⟨#[]⟩, [], [], 0, 0, 0, [], []⟩ ∧ evenL (bodyL p) = u32B p.sender ++ p.reps.flatMap repL := by
  obtain ⟨kind, sender, media, ntp, rtp, pkts, octs, reps, name, srcs, seqs, base, ref, count, arrs, wants⟩ := p
  simp only at hk
  subst hk
  have e := hg.2
  have e1 : (⟨2, sender, media, ntp, rtp, pkts, octs, reps, name, srcs, seqs, base, ref, count, arrs, wants⟩ : Pk) = ⟨2, sender, 0, 0, 0, 0, 0, reps, ⟨#[]⟩, [], [], 0, 0, 0, [], []⟩ := by
    rw [e]
    simp [onlyP]
  refine ⟨e1, ?_⟩
  rw [e1, evenL_of] <;> simp [bodyL, kindL, u32Bs, u32B_len, fm_len repL_len, fm_len wnL_len, fm_len (f := u32B) (fun _ => u32B_len _), fm_len (f := pieceB) (s := 4) (fun _ => rfl), piecesB] <;> try omega
theorem shape4 {p : Pk} (hg : Good p) (hk : p.kind = 4) : p = ⟨4, 0, 0, 0, 0, 0, 0, [], ⟨#[]⟩, p.srcs, [], 0, 0, 0, [], []⟩ ∧ evenL (bodyL p) = p.srcs.flatMap u32B := by
  obtain ⟨kind, sender, media, ntp, rtp, pkts, octs, reps, name, srcs, seqs, base, ref, count, arrs, wants⟩ := p
  simp only at hk
  subst hk
  have e := hg.2
  have e1 : (⟨4, sender, media, ntp, rtp, pkts, octs, reps, name, srcs, seqs, base, ref, count, arrs, wants⟩ : Pk) = ⟨4, 0, 0, 0, 0, 0, 0, [], ⟨#[]⟩, srcs, [], 0, 0, 0, [], []⟩ := by
    rw [e]
    simp [onlyP]
  refine ⟨e1, ?_⟩
  rw [e1, evenL_of] <;> simp [bodyL, kindL, u32Bs, u32B_len, fm_len repL_len, fm_len wnL_len, fm_len (f := u32B) (fun _ => u32B_len _), fm_len (f := pieceB) (s := 4) (fun _ => rfl), piecesB] <;> try omega
theorem shape5 {p : Pk} (hg : Good p) (hk : p.kind = 5) : p = ⟨5, p.sender, p.media, 0, 0, 0, 0, [], ⟨#[]⟩, [], p.seqs, 0, 0, 0, [], []⟩ ∧ evenL (bodyL p) = u32B p.sender ++ (u32B p.media ++ (piecesP p.seqs).flatMap pieceB) := by
  obtain ⟨kind, sender, media, ntp, rtp, pkts, octs, reps, name, srcs, seqs, base, ref, count, arrs, wants⟩ := p
  simp only at hk
  subst hk
  have e := hg.2
  have e1 : (⟨5, sender, media, ntp, rtp, pkts, octs, reps, name, srcs, seqs, base, ref, count, arrs, wants⟩ : Pk) = ⟨5, sender, media, 0, 0, 0, 0, [], ⟨#[]⟩, [], seqs, 0, 0, 0, [], []⟩ := by
    rw [e]
    simp [onlyP]
  refine ⟨e1, ?_⟩
  rw [e1, evenL_of] <;> simp [bodyL, kindL, u32Bs, u32B_len, fm_len repL_len, fm_len wnL_len, fm_len (f := u32B) (fun _ => u32B_len _), fm_len (f := pieceB) (s := 4) (fun _ => rfl), piecesB] <;> try omega
theorem shape8 {p : Pk} (hg : Good p) (hk : p.kind = 8) : p = ⟨8, p.sender, p.media, 0, 0, 0, 0, [], ⟨#[]⟩, [], [], 0, 0, 0, [], p.wants⟩ ∧ evenL (bodyL p) = u32B p.sender ++ (u32B p.media ++ p.wants.flatMap wnL) := by
  obtain ⟨kind, sender, media, ntp, rtp, pkts, octs, reps, name, srcs, seqs, base, ref, count, arrs, wants⟩ := p
  simp only at hk
  subst hk
  have e := hg.2
  have e1 : (⟨8, sender, media, ntp, rtp, pkts, octs, reps, name, srcs, seqs, base, ref, count, arrs, wants⟩ : Pk) = ⟨8, sender, media, 0, 0, 0, 0, [], ⟨#[]⟩, [], [], 0, 0, 0, [], wants⟩ := by
    rw [e]
    simp [onlyP]
  refine ⟨e1, ?_⟩
  rw [e1, evenL_of] <;> simp [bodyL, kindL, u32Bs, u32B_len, fm_len repL_len, fm_len wnL_len, fm_len (f := u32B) (fun _ => u32B_len _), fm_len (f := pieceB) (s := 4) (fun _ => rfl), piecesB] <;> try omega
theorem shape3 {p : Pk} (hg : Good p) (hk : p.kind = 3) : p = ⟨3, p.sender, 0, 0, 0, 0, 0, [], p.name, [], [], 0, 0, 0, [], []⟩ ∧ ∃ t, evenL (bodyL p) = u32B p.sender ++ ([byteOf 1] ++ ([byteOf p.name.size] ++ (p.name.data.toList ++ t))) := by
  obtain ⟨kind, sender, media, ntp, rtp, pkts, octs, reps, name, srcs, seqs, base, ref, count, arrs, wants⟩ := p
  simp only at hk
  subst hk
  have e := hg.2
  have e1 : (⟨3, sender, media, ntp, rtp, pkts, octs, reps, name, srcs, seqs, base, ref, count, arrs, wants⟩ : Pk) = ⟨3, sender, 0, 0, 0, 0, 0, [], name, [], [], 0, 0, 0, [], []⟩ := by
    rw [e]
    simp [onlyP]
  refine ⟨e1, ?_⟩
  rw [e1]
  exact ⟨[byteOf 0] ++ List.replicate ((4 - (bodyL ⟨3, sender, 0, 0, 0, 0, 0, [], name, [], [], 0, 0, 0, [], []⟩).length % 4) % 4) 0, by simp [evenL, bodyL, kindL, u32Bs]⟩
theorem shape6 {p : Pk} (hg : Good p) (hk : p.kind = 6) : p = ⟨6, p.sender, p.media, 0, 0, 0, 0, [], ⟨#[]⟩, [], [], p.base, p.ref, p.count, p.arrs, []⟩ ∧ ∃ t, evenL (bodyL p) = u32B p.sender ++ (u32B p.media ++ (u16B p.base ++ (u16B p.arrs.length ++ (u32B (p.ref * 256 + p.count) ++ (marksT p.arrs ((p.arrs.length + 6) / 7) ++ (p.arrs.flatMap farO ++ t)))))) := by
  have h1 : 0 < p.arrs.length := by
    have := hg.1
    unfold KindOk at this
    omega
  obtain ⟨kind, sender, media, ntp, rtp, pkts, octs, reps, name, srcs, seqs, base, ref, count, arrs, wants⟩ := p
  simp only at hk h1
  subst hk
  have e := hg.2
  have e1 : (⟨6, sender, media, ntp, rtp, pkts, octs, reps, name, srcs, seqs, base, ref, count, arrs, wants⟩ : Pk) = ⟨6, sender, media, 0, 0, 0, 0, [], ⟨#[]⟩, [], [], base, ref, count, arrs, []⟩ := by
    rw [e]
    simp [onlyP]
  refine ⟨e1, ?_⟩
  rw [e1]
  exact ⟨List.replicate ((4 - (bodyL ⟨6, sender, media, 0, 0, 0, 0, [], ⟨#[]⟩, [], [], base, ref, count, arrs, []⟩).length % 4) % 4) 0, by simp [evenL, bodyL, kindL, u32Bs, arrsL_eq _ h1]⟩
abbrev Rd4 (r : RS) (x : Int) (r' : RS) : Prop := x = ((numL (cutS 4 r).1 : Nat) : Int) ∧ r' = (cutS 4 r).2
abbrev Rd2 (r : RS) (x : Int) (r' : RS) : Prop := x = ((numL (cutS 2 r).1 : Nat) : Int) ∧ r' = (cutS 2 r).2
abbrev Rd1 (r : RS) (x : Int) (r' : RS) : Prop := x = ((numL (cutS 1 r).1 : Nat) : Int) ∧ r' = (cutS 1 r).2
theorem rd4_of {r r' : RS} {x y : Int} {t : List UInt8} (h : Rd4 r x r') (hy : 0 ≤ y ∧ y ≤ 4294967295) (hr : r = (u32B y ++ t, false)) : x = y ∧ r' = (t, false) := by
  subst hr
  obtain ⟨h1, h2⟩ := h
  rw [h1, h2]
  exact rd4 hy t
theorem rd2_of {r r' : RS} {x y : Int} {t : List UInt8} (h : Rd2 r x r') (hy : 0 ≤ y ∧ y ≤ 65535) (hr : r = (u16B y ++ t, false)) : x = y ∧ r' = (t, false) := by
  subst hr
  obtain ⟨h1, h2⟩ := h
  rw [h1, h2]
  exact rd2 hy t
theorem rd1_of {r r' : RS} {x y : Int} {t : List UInt8} (h : Rd1 r x r') (hy : 0 ≤ y ∧ y ≤ 255) (hr : r = ([byteOf y] ++ t, false)) : x = y ∧ r' = (t, false) := by
  subst hr
  obtain ⟨h1, h2⟩ := h
  rw [h1, h2]
  exact rd1 hy t
theorem rdRep {r a b c d e f : RS} {x n h j l k : Int} {y : Rp} {t : List UInt8} (hy : RpOk y) (hr : r = (repL y ++ t, false)) (h1 : Rd4 r x a) (h2 : Rd4 a n b) (h3 : Rd4 b h c) (h4 : Rd4 c j d) (h5 : Rd4 d l e) (h6 : Rd4 e k f) :
    y = ⟨x, n / 16777216, n % 16777216, h, j, l, k⟩ ∧ f = (t, false) := by
  have g1 := hy.src; have g2 := hy.lost; have g3 := hy.total; have g4 := hy.high; have g5 := hy.jit; have g6 := hy.last; have g7 := hy.delay
  have e0 : repL y ++ t = u32B y.src ++ (u32B (y.lost * 16777216 + y.total) ++ (u32B y.high ++ (u32B y.jit ++ (u32B y.last ++ (u32B y.delay ++ t))))) := by simp [repL, repN, u32Bs]
  rw [e0] at hr
  obtain ⟨a1, hr⟩ := rd4_of h1 (by omega) hr
  obtain ⟨a2, hr⟩ := rd4_of h2 (by omega) hr
  obtain ⟨a3, hr⟩ := rd4_of h3 (by omega) hr
  obtain ⟨a4, hr⟩ := rd4_of h4 (by omega) hr
  obtain ⟨a5, hr⟩ := rd4_of h5 (by omega) hr
  obtain ⟨a6, hr6⟩ := rd4_of h6 (by omega) hr
  obtain ⟨s, lo, tt, hi, ji, la, de⟩ := y
  simp only at a1 a2 a3 a4 a5 a6 g1 g2 g3
  refine ⟨?_, hr6⟩
  rw [a1, a2, a3, a4, a5, a6, show (lo * 16777216 + tt) / 16777216 = lo by omega, show (lo * 16777216 + tt) % 16777216 = tt by omega]
theorem and_24 {f : Int} (h0 : 0 ≤ f) (h1 : f ≤ 4294967295) : bits BinOp.and IntKind.u32 f 16777215 = f % 16777216 := by
  have e1 : f = ((f.toNat : Nat) : Int) := by omega
  have hb : ∀ i j : Nat, i < 4294967296 → j < 4294967296 → bits BinOp.and IntKind.u32 (i : Int) (j : Int) = ((i &&& j : Nat) : Int) := by
    intro i j hi hj
    have h2 : i &&& j < 2 ^ 32 := Nat.and_lt_two_pow _ hj
    have e2 : (BitVec.ofInt 32 (i : Int)).toNat = i := by rw [BitVec.ofInt_natCast, BitVec.toNat_ofNat]; exact Nat.mod_eq_of_lt (by omega)
    have e3 : (BitVec.ofInt 32 (j : Int)).toNat = j := by rw [BitVec.ofInt_natCast, BitVec.toNat_ofNat]; exact Nat.mod_eq_of_lt (by omega)
    show IntKind.u32.wrap ((BitVec.ofInt 32 (i : Int) &&& BitVec.ofInt 32 (j : Int)).toNat : Int) = _
    rw [BitVec.toNat_and, e2, e3]
    simp only [IntKind.wrap, IntKind.signed, IntKind.bits]
    show ((i &&& j : Nat) : Int) % 4294967296 = _
    omega
  rw [e1, show (16777215 : Int) = ((16777215 : Nat) : Int) from rfl, hb _ _ (by omega) (by omega), show (16777215 : Nat) = 2 ^ 24 - 1 from rfl, Nat.and_two_pow_sub_one_eq_mod]
  omega

theorem mS_le {n : Int} {r : RS} : mS (cutS n r).2 ≤ mS r := by
  obtain ⟨l, bd⟩ := r
  unfold mS cutS
  split
  · simp
  · rename_i h
    simp at h
    simp [h.1]
theorem mS_lt {n : Nat} {r : RS} (h : r.1.length ≤ n) : mS r ≤ n + 1 := by
  unfold mS
  split <;> omega
theorem fm_zero {α : Type} {f : α → List UInt8} (hs : ∀ x, 0 < (f x).length) {l : List α} (h : (l.flatMap f).length = 0) : l = [] := by
  cases l with
  | nil => rfl
  | cons x r =>
    rw [List.flatMap_cons, List.length_append] at h
    have := hs x
    omega
theorem fm_more {α : Type} {f : α → List UInt8} {l : List α} (h : 0 < (l.flatMap f).length) : ∃ x t, l = x :: t ∧ l.flatMap f = f x ++ t.flatMap f := by
  cases l with
  | nil => simp at h
  | cons x r => exact ⟨x, r, rfl, by rw [List.flatMap_cons]⟩
theorem raw_mk {p : Pk} (h1 : 0 ≤ p.sender ∧ p.sender ≤ 4294967295) (h2 : 0 ≤ p.media ∧ p.media ≤ 4294967295) (h3 : 0 ≤ p.ntp ∧ p.ntp ≤ 18446744073709551615) (h4 : 0 ≤ p.rtp ∧ p.rtp ≤ 4294967295) (h5 : 0 ≤ p.pkts ∧ p.pkts ≤ 4294967295) (h6 : 0 ≤ p.octs ∧ p.octs ≤ 4294967295)
    (h7 : ∀ x ∈ p.reps, RpRaw x) (h8 : ∀ x ∈ p.srcs, 0 ≤ x ∧ x ≤ 4294967295) (h9 : ∀ x ∈ p.seqs, 0 ≤ x ∧ x ≤ 65535) (h10 : 0 ≤ p.base ∧ p.base ≤ 65535) (h11 : 0 ≤ p.ref ∧ p.ref ≤ 4294967295) (h12 : 0 ≤ p.count ∧ p.count ≤ 255)
    (h13 : ∀ x ∈ p.wants, (0 ≤ x.src ∧ x.src ≤ 4294967295) ∧ (0 ≤ x.seq ∧ x.seq ≤ 255)) (l1 : p.reps.length ≤ 70000) (l2 : p.srcs.length ≤ 70000) (l3 : p.seqs.length ≤ 70000) (l4 : p.arrs.length ≤ 70000) (l5 : p.wants.length ≤ 70000) (l6 : p.name.size ≤ 70000) : PkRaw p :=
  ⟨h1, h2, h3, h4, h5, h6, h7, h8, h9, h10, h11, h12, h13, by omega, by omega, by omega, by omega, by omega, by unfold maxLen; omega, by omega, by omega, by omega, by omega, by omega⟩
theorem St.up12 {I : Img} {M : List Res} {w : World} {a b c : Res} (h : St I (a :: b :: c :: M) w) : St I (b :: c :: a :: M) w := h.swap2.swap1
theorem rawRep {a n h j l k : Int} (a0 : 0 ≤ a) (a1 : a ≤ 4294967295) (n0 : 0 ≤ n) (n1 : n ≤ 4294967295) (h0 : 0 ≤ h) (h1 : h ≤ 4294967295) (j0 : 0 ≤ j) (j1 : j ≤ 4294967295) (l0 : 0 ≤ l) (l1 : l ≤ 4294967295) (k0 : 0 ≤ k) (k1 : k ≤ 4294967295) : RpRaw ⟨a, n / 16777216, n % 16777216, h, j, l, k⟩ :=
  ⟨⟨a0, by simp only []; omega⟩, ⟨by simp only []; omega, by simp only []; omega⟩, ⟨by simp only []; omega, by simp only []; omega⟩, ⟨h0, by simp only []; omega⟩, ⟨j0, by simp only []; omega⟩, ⟨l0, by simp only []; omega⟩, ⟨k0, by simp only []; omega⟩⟩
theorem rdWn {r a b : RS} {x n : Int} {y : Wn} {t : List UInt8} (hy : (0 ≤ y.src ∧ y.src ≤ 4294967295) ∧ (0 ≤ y.seq ∧ y.seq ≤ 255)) (hr : r = (wnL y ++ t, false)) (h1 : Rd4 r x a) (h2 : Rd1 a n b) : y = ⟨x, n⟩ ∧ (cutS 3 b).2 = (t, false) := by
  obtain ⟨s, q⟩ := y
  simp only at hy
  have e0 : wnL ⟨s, q⟩ ++ t = u32B s ++ ([byteOf q] ++ ([byteOf 0, byteOf 0, byteOf 0] ++ t)) := by
    unfold wnL u32B
    simp only [List.cons_append, List.nil_append, List.append_assoc]
    rw [show q * 16777216 / 16777216 = q by omega, show q * 16777216 / 65536 % 256 = 0 by omega, show q * 16777216 / 256 % 256 = 0 by omega, show q * 16777216 % 256 = 0 by omega]
  rw [e0] at hr
  obtain ⟨a1, hr⟩ := rd4_of h1 hy.1 hr
  obtain ⟨a2, hr6⟩ := rd1_of h2 hy.2 hr
  rw [a1, a2, hr6]
  exact ⟨rfl, by rw [cut_app [byteOf 0, byteOf 0, byteOf 0] t 3 rfl]⟩
theorem St.freezeRowN {I : Img} {M : List Res} {w : World} {n n' c : Nat} {A : Option Addr} {xs : List Value} (h : St I (row 42 1 (.slice A n' c) n xs :: M) w) (h0 : 0 < xs.length) : ∃ J, I.le J ∧ St J M w ∧ Cells J A xs ∧ SeqNew I M J (.slice A n' c) := by
  obtain ⟨g, cur, e1, e2, hlc, hcm, hcs, hct, hs⟩ := h.rowBk h0
  subst e1
  obtain ⟨J, hle, hst, hobj⟩ := hs.freezeBlk
  refine ⟨J, hle, hst, ?_, g, n', c, cur, rfl, hobj, hs.away _ (List.mem_cons_self ..) g rfl, fun r hr hb => ?_⟩
  · intro _
    refine ⟨g, 0, rfl, fun j hj => ?_⟩
    have h1 : cur[j]? = some xs[j] := by
      have h2 : (List.take (n * 1) cur.toList)[j]? = some xs[j] := by rw [hct]; exact List.getElem?_eq_getElem hj
      rw [List.getElem?_take] at h2
      split at h2
      · rw [← Array.getElem?_toList]; exact h2
      · cases h2
    unfold Img.cell?
    simp only [hobj, Nat.zero_add]
    exact h1
  · exact (List.pairwise_cons.1 hs.apart).1 r hr g rfl hb
theorem nt_back (n : Int) : n = n / 4294967296 * 4294967296 + n % 4294967296 := by omega
theorem or_u64 {a b : Int} (a0 : 0 ≤ a) (a1 : a ≤ 4294967295) (b0 : 0 ≤ b) (b1 : b ≤ 4294967295) : bits BinOp.or IntKind.u64 (a * 4294967296) b = a * 4294967296 + b := by
  obtain ⟨x, rfl⟩ := Int.eq_ofNat_of_zero_le a0
  obtain ⟨y, rfl⟩ := Int.eq_ofNat_of_zero_le b0
  have hx : x * 4294967296 < 2 ^ 64 := by omega
  have e2 : (BitVec.ofInt 64 ((x : Int) * 4294967296)).toNat = x * 4294967296 := by rw [show ((x : Int) * 4294967296) = ((x * 4294967296 : Nat) : Int) by omega, BitVec.ofInt_natCast, BitVec.toNat_ofNat]; exact Nat.mod_eq_of_lt (by omega)
  have e3 : (BitVec.ofInt 64 (y : Int)).toNat = y := by rw [BitVec.ofInt_natCast, BitVec.toNat_ofNat]; exact Nat.mod_eq_of_lt (by omega)
  show IntKind.u64.wrap ((BitVec.ofInt 64 ((x : Int) * 4294967296) ||| BitVec.ofInt 64 (y : Int)).toNat : Int) = _
  rw [BitVec.toNat_or, e2, e3]
  have h4 : x * 4294967296 ||| y = x * 4294967296 + y := by
    have := Nat.two_pow_add_eq_or_of_lt (i := 32) (b := y) (by omega) x
    rw [show x * 4294967296 = 2 ^ 32 * x by omega, ← this]
  rw [h4, u64_mod]
  omega
theorem St.rowUp3 {I : Img} {M : List Res} {w : World} {a b c d : Res} (h : St I (a :: b :: c :: d :: M) w) : St I (d :: a :: b :: c :: M) w := h.perm (List.perm_append_comm (l₁ := [a, b, c]) (l₂ := [d]) |>.append_right M)
theorem St.dn12 {I : Img} {M : List Res} {w : World} {a b c : Res} (h : St I (b :: c :: a :: M) w) : St I (a :: b :: c :: M) w := h.swap1.swap2

end Go.Proofs.Ytddopbbmgpnjjaa
