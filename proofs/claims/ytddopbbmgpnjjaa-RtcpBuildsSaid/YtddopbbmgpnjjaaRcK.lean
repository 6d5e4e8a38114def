/- wire.Writer.Even, rtcp.Report.write. -/
import Derived.Test.YtddopbbmgpnjjaaRcJ
import Derived.Test.YtddopbbmgpnjjaaWr
namespace Go.Proofs.Ytddopbbmgpnjjaa
open Go.RowKit
set_option linter.unusedSimpArgs false

def lenAt (w : World) (p : Nat) : Nat := match w.cell? ⟨p, 0, none⟩ with
  | some (.slice _ n _) => n
  | _ => 0
/-- noughts up to whole words -/
def evenL (l : List UInt8) : List UInt8 := l ++ List.replicate ((4 - l.length % 4) % 4) 0
theorem evenL_len (l : List UInt8) : (evenL l).length % 4 = 0 := by
  unfold evenL
  rw [List.length_append, List.length_replicate]
  omega
theorem evenL_le (l : List UInt8) : (evenL l).length ≤ l.length + 3 := by
  unfold evenL
  rw [List.length_append, List.length_replicate]
  omega
theorem rep_snoc (k : Nat) : List.replicate (k + 1) (0 : UInt8) = List.replicate k 0 ++ [0] := by
  rw [List.replicate_succ']
set_option maxHeartbeats 2000000 in
theorem evenC (I : Img) (M : List Res) (w : World) (p WT : Nat) (v : Value) (l : List UInt8) (hst : St I (row 5 1 v l.length (bvs l) :: bk p WT #[v] :: M) w) (hl : l.length ≤ 140737488351000) :
    Calls Try.prog 55 #[.pointer (some ⟨p, 0, none⟩)] w (Ret I (fun v' J M' => I = J ∧ Wrote M p WT (evenL l) v' M')) := by
  have H0 := Lib.hid hst
  clear hst
  go_enter Try.func55, Try.ntmps55
  go_wp2_with fail
  go_loopw [] (fun wr => Hid (∃ k v, k ≤ (4 - l.length % 4) % 4 ∧ St I (row 5 1 v (l ++ List.replicate k 0).length (bvs (l ++ List.replicate k 0)) :: bk p WT #[v] :: M) wr)) (fun wr => (4 - lenAt wr p % 4) % 4)
  case atStart => exact ⟨0, v, Nat.zero_le _, by simpa using H0.out⟩
  case round =>
    obtain ⟨k, v, hk, hs⟩ := hrel.out
    clear hrel H0
    obtain ⟨A, c, rfl⟩ := own_form (show wr.ownsRow 0 5 1 v _ _ from hs.head)
    obtain ⟨n, hln⟩ : ∃ n, n = (l ++ List.replicate k 0).length := ⟨_, rfl⟩
    have hnk : n = l.length + k := by rw [hln]; simp
    rw [← hln] at hs
    obtain ⟨hc, hf, hlt⟩ := (show Blk wr p WT #[.slice A n c] from hs.at 1 rfl).one
    have hlen : lenAt wr p = n := by unfold lenAt; rw [hc]
    have h1 : (n : Int) ≤ 140737488351232 := by omega
    have HLN := Lib.hid hlen
    clear hlen
    by_cases hlt2 : k < (4 - l.length % 4) % 4
    · have hq : ((n : Int) % 4 != 0) = true := by rw [bne_iff_ne]; omega
      have HC := Lib.hid (wU8 (I := I) p WT (.slice A n c) (l ++ List.replicate k 0) 0 (by rw [← hln]; exact hs) (by rw [← hln]; omega) (by decide))
      have HNK := Lib.hid hnk
      have HKL := Lib.hid hlt2
      clear hs hln hnk hlt2 hk hl
      go_wp2_with fail
      go_at_call 49
      refine HC.out.mono ?_
      rintro e W ⟨_, _, _, rfl, _, hs, rfl, rfl, v2, rfl⟩
      have e1 : l ++ List.replicate k 0 ++ [byteOf 0] = l ++ List.replicate (k + 1) 0 := by rw [rep_snoc, List.append_assoc]; rfl
      rw [e1] at hs
      have HS := Lib.hid hs
      have HM : Hid (lenAt W p = n + 1) := Lib.hid (by
        obtain ⟨A2, c2, rfl⟩ := own_form (show W.ownsRow 0 5 1 v2 _ _ from hs.head)
        obtain ⟨hc2, _, _⟩ := (show Blk W p WT #[_] from hs.at 1 rfl).one
        unfold lenAt
        rw [hc2]
        show (l ++ List.replicate (k + 1) 0).length = n + 1
        rw [HNK.out]; simp; omega)
      clear hs e1 HC
      go_wp2
      go_roundw
      case rel => exact ⟨k + 1, v2, by have := HKL.out; omega, HS.out⟩
      case measure =>
        rw [HM.out, HLN.out]
        have h1 := HNK.out
        have h2 := HKL.out
        omega
    · have hq : ((n : Int) % 4 != 0) = false := by rw [bne_eq_false_iff_eq]; omega
      have hkk : k = (4 - l.length % 4) % 4 := by omega
      rw [hln] at hs
      have HS := Lib.hid (show St I (row 5 1 (.slice A (evenL l).length c) (evenL l).length (bvs (evenL l)) :: bk p WT #[.slice A (evenL l).length c] :: M) wr from by rw [hkk] at hs; exact hs)
      clear hs hln hnk hkk hlt2 hk
      go_wp2
      go_returns
      exact Ret.mk (.refl I) HS.out ⟨rfl, rfl, _, rfl⟩
/-- a report's numbers are in their ranges, its total of 24 bits -/
structure RpOk (x : Rp) : Prop where
  src : 0 ≤ x.src ∧ x.src < 4294967296
  lost : 0 ≤ x.lost ∧ x.lost < 256
  total : 0 ≤ x.total ∧ x.total < 16777216
  high : 0 ≤ x.high ∧ x.high < 4294967296
  jit : 0 ≤ x.jit ∧ x.jit < 4294967296
  last : 0 ≤ x.last ∧ x.last < 4294967296
  delay : 0 ≤ x.delay ∧ x.delay < 4294967296
def repN (x : Rp) : List Int := [x.src, x.lost * 16777216 + x.total, x.high, x.jit, x.last, x.delay]
def u32Bs (l : List Int) : List UInt8 := l.flatMap u32B
def repL (x : Rp) : List UInt8 := u32Bs (repN x)
theorem repN_ok {x : Rp} (h : RpOk x) : ∀ n ∈ repN x, 0 ≤ n ∧ n < 4294967296 := by
  intro n hn
  have h1 := h.src; have h2 := h.lost; have h3 := h.total; have h4 := h.high; have h5 := h.jit; have h6 := h.last; have h7 := h.delay
  simp only [repN, List.mem_cons, List.mem_nil_iff, or_false] at hn
  rcases hn with rfl | rfl | rfl | rfl | rfl | rfl <;> omega
theorem u32Bs_len (l : List Int) : (u32Bs l).length = 4 * l.length := by
  induction l with
  | nil => rfl
  | cons x r ih =>
    show (u32B x ++ u32Bs r).length = _
    rw [List.length_append, ih, List.length_cons]
    show 4 + 4 * r.length = _
    omega
theorem u32Bs_snoc (l : List Int) (x : Int) : u32Bs (l ++ [x]) = u32Bs l ++ u32B x := by simp [u32Bs]
theorem or_low (a b s : Nat) (hb : b < 2 ^ s) (hs : 2 ^ s ≤ 4294967296) (ha : a * 2 ^ s < 4294967296) : bits BinOp.or IntKind.u32 ((a * 2 ^ s : Nat) : Int) (b : Int) = ((a * 2 ^ s + b : Nat) : Int) := by
  have hor : a * 2 ^ s ||| b = a * 2 ^ s + b := by
    have := Nat.shiftLeft_add_eq_or_of_lt (b := b) (i := s) hb a
    rw [Nat.shiftLeft_eq] at this
    exact this.symm
  have hlt : a * 2 ^ s ||| b < 2 ^ 32 := Nat.or_lt_two_pow (by simpa using ha) (by omega)
  have e2 : (BitVec.ofInt 32 ((a * 2 ^ s : Nat) : Int)).toNat = a * 2 ^ s := by
    rw [BitVec.ofInt_natCast, BitVec.toNat_ofNat]; exact Nat.mod_eq_of_lt (by omega)
  have e3 : (BitVec.ofInt 32 (b : Int)).toNat = b := by
    rw [BitVec.ofInt_natCast, BitVec.toNat_ofNat]; exact Nat.mod_eq_of_lt (by omega)
  show IntKind.u32.wrap ((BitVec.ofInt 32 ((a * 2 ^ s : Nat) : Int) ||| BitVec.ofInt 32 (b : Int)).toNat : Int) = _
  rw [BitVec.toNat_or, e2, e3, hor]
  rw [hor] at hlt
  simp only [IntKind.wrap, IntKind.signed, IntKind.bits]
  show ((a * 2 ^ s + b : Nat) : Int) % 4294967296 = _
  omega
theorem or_rep {a b : Int} (ha : 0 ≤ a ∧ a < 256) (hb : 0 ≤ b ∧ b < 16777216) : bits BinOp.or IntKind.u32 (a * 16777216) b = a * 16777216 + b := by
  obtain ⟨m, rfl⟩ := Int.eq_ofNat_of_zero_le ha.1
  obtain ⟨n, rfl⟩ := Int.eq_ofNat_of_zero_le hb.1
  have h := or_low m n 24 (by simp; omega) (by simp) (by simp; omega)
  have e : (m : Int) * 16777216 = ((m * 2 ^ 24 : Nat) : Int) := by simp
  rw [e, h]
  omega
theorem idx6 (a b c d e f : Int) (k : Nat) (hk : k < [a, b, c, d, e, f].length) (w : World) : (Instr.index 122 (.agg #[.int .u32 a, .int .u32 b, .int .u32 c, .int .u32 d, .int .u32 e, .int .u32 f]) (.int .i64 k)).run Try.prog w = .ok (.int .u32 ([a, b, c, d, e, f][k])) w := by
  have h : k = 0 ∨ k = 1 ∨ k = 2 ∨ k = 3 ∨ k = 4 ∨ k = 5 := by simp only [List.length_cons, List.length_nil] at hk; omega
  rcases h with rfl | rfl | rfl | rfl | rfl | rfl
  · have h := (by kernel_rfl : (Instr.index 122 (.agg #[.int .u32 a, .int .u32 b, .int .u32 c, .int .u32 d, .int .u32 e, .int .u32 f]) (.int .i64 0)).run Try.prog w = .ok (.int .u32 a) w)
    simpa using h
  · have h := (by kernel_rfl : (Instr.index 122 (.agg #[.int .u32 a, .int .u32 b, .int .u32 c, .int .u32 d, .int .u32 e, .int .u32 f]) (.int .i64 1)).run Try.prog w = .ok (.int .u32 b) w)
    simpa using h
  · have h := (by kernel_rfl : (Instr.index 122 (.agg #[.int .u32 a, .int .u32 b, .int .u32 c, .int .u32 d, .int .u32 e, .int .u32 f]) (.int .i64 2)).run Try.prog w = .ok (.int .u32 c) w)
    simpa using h
  · have h := (by kernel_rfl : (Instr.index 122 (.agg #[.int .u32 a, .int .u32 b, .int .u32 c, .int .u32 d, .int .u32 e, .int .u32 f]) (.int .i64 3)).run Try.prog w = .ok (.int .u32 d) w)
    simpa using h
  · have h := (by kernel_rfl : (Instr.index 122 (.agg #[.int .u32 a, .int .u32 b, .int .u32 c, .int .u32 d, .int .u32 e, .int .u32 f]) (.int .i64 4)).run Try.prog w = .ok (.int .u32 e) w)
    simpa using h
  · have h := (by kernel_rfl : (Instr.index 122 (.agg #[.int .u32 a, .int .u32 b, .int .u32 c, .int .u32 d, .int .u32 e, .int .u32 f]) (.int .i64 5)).run Try.prog w = .ok (.int .u32 f) w)
    simpa using h
set_option maxRecDepth 8000 in
set_option maxHeartbeats 4000000 in
theorem repW (I : Img) (M : List Res) (w : World) (p WT : Nat) (v : Value) (l : List UInt8) (x : Rp) (hx : RpOk x) (hst : St I (row 5 1 v l.length (bvs l) :: bk p WT #[v] :: M) w) (hl : l.length ≤ 140737488351000) :
    Calls Try.prog 54 #[.agg #[.int .u32 x.src, .int .u8 x.lost, .int .u32 x.total, .int .u32 x.high, .int .u32 x.jit, .int .u32 x.last, .int .u32 x.delay], .pointer (some ⟨p, 0, none⟩)] w (Ret I (fun v' J M' => I = J ∧ Wrote M p WT (l ++ repL x) v' M')) := by
  have hs1 := hst.grow (.cells #[.int .u32 x.src, .int .u8 x.lost, .int .u32 x.total, .int .u32 x.high, .int .u32 x.jit, .int .u32 x.last, .int .u32 x.delay] 65)
  have H1 := Lib.hid hs1
  have HN := Lib.hid (repN_ok hx)
  have hor := or_rep hx.lost hx.total
  obtain ⟨h1, h2⟩ := hx.lost
  obtain ⟨h3, h4⟩ := hx.total
  have HL := Lib.hid (show repN x = [x.src, x.lost * 16777216 + x.total, x.high, x.jit, x.last, x.delay] from rfl)
  clear hst hs1 hx
  go_enter Try.func54, Try.ntmps54
  go_wp2_with fail
  generalize World.alloc w _ = W at H1 ⊢
  generalize w.heap.size = q
  go_loopw [24] (fun iv wr => ∃ k : Nat, k ≤ 6 ∧ iv = .int .i64 k ∧ Hid (∃ v, St I (row 5 1 v (l ++ u32Bs ((repN x).take k)).length (bvs (l ++ u32Bs ((repN x).take k))) :: bk p WT #[v] :: M) wr)) (fun iv _ => 6 - (intOf iv).toNat)
  case atStart => exact ⟨0, by omega, rfl, v, by simpa [u32Bs] using H1.out⟩
  case round =>
    obtain ⟨k, hk, rfl, hh⟩ := hrel
    obtain ⟨v, hs⟩ := hh.out
    have HS := Lib.hid hs
    clear hs hh H1
    by_cases hlt : k < 6
    · have hlr : k < (repN x).length := hlt
      have hix := idx6 x.src (x.lost * 16777216 + x.total) x.high x.jit x.last x.delay k hlt
      have hmem := HN.out _ (List.getElem_mem hlr)
      have htk : (repN x).take (k + 1) = (repN x).take k ++ [(repN x)[k]'hlr] := List.take_succ_eq_append_getElem hlr
      obtain ⟨y, hy⟩ : ∃ y, y = (repN x)[k]'hlr := ⟨_, rfl⟩
      have hy2 : [x.src, x.lost * 16777216 + x.total, x.high, x.jit, x.last, x.delay][k]'hlt = y := hy.symm
      rw [← hy] at hmem htk
      simp only [hy2] at hix
      have HTK := Lib.hid htk
      obtain ⟨hy3, hy4⟩ := hmem
      have hln : ((repN x).take k).length ≤ 6 := by rw [List.length_take]; exact Nat.le_trans (Nat.min_le_left _ _) hk
      have HC := Lib.hid (wU32 (I := I) p WT v _ y HS.out (by rw [List.length_append, u32Bs_len]; omega) ⟨hy3, by omega⟩)
      clear htk hy hy2
      go_wp2_with fail
      go_at_call 48
      refine HC.out.mono ?_
      rintro e W2 ⟨_, _, _, rfl, _, hs, rfl, rfl, v2, rfl⟩
      rw [List.append_assoc, ← u32Bs_snoc, ← HTK.out] at hs
      have HS2 := Lib.hid hs
      clear hs HS HC
      go_wp2
      go_roundw
      case rel => exact ⟨k + 1, by omega, by go_num, v2, HS2.out⟩
      case measure => simp [intOf]; omega
    · have hk6 : k = 6 := by omega
      subst hk6
      have HS2 := Lib.hid (show St I (row 5 1 v (l ++ repL x).length (bvs (l ++ repL x)) :: bk p WT #[v] :: M) wr from HS.out)
      clear HS
      go_wp2
      go_returns
      exact Ret.mk (.refl I) HS2.out ⟨rfl, rfl, _, rfl⟩
end Go.Proofs.Ytddopbbmgpnjjaa
