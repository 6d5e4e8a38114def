/- the bytes of a packet. -/
import Derived.Test.YtddopbbmgpnjjaaRcJ
import Derived.Test.YtddopbbmgpnjjaaWr
import Derived.Test.YtddopbbmgpnjjaaRg
import Derived.RangeFuncBound
import Derived.Shelf.RegionOpen
import Derived.OwnWalkIn
import Derived.TacticsInMore
import Derived.LoopNIn
import Derived.LoopIn
namespace Go.Proofs.Ytddopbbmgpnjjaa
open Go.RowKit
set_option linter.unusedSimpArgs false

def lenAt (w : World) (p : Nat) : Nat := match w.cell? ⟨p, 0, none⟩ with
  | some (.slice _ n _) => n
  | _ => 0
/-- noughts up to whole words -/
def evenL (l : List UInt8) : List UInt8 := l ++ List.replicate ((4 - l.length % 4) % 4) 0
theorem evenL_len (l : List UInt8) : (evenL l).length % 4 = 0 := by
  unfold evenL
  rw [List.length_append, List.length_replicate]
  omega
theorem evenL_le (l : List UInt8) : (evenL l).length ≤ l.length + 3 := by
  unfold evenL
  rw [List.length_append, List.length_replicate]
  omega
theorem rep_snoc (k : Nat) : List.replicate (k + 1) (0 : UInt8) = List.replicate k 0 ++ [0] := by
  rw [List.replicate_succ']
set_option maxHeartbeats 2000000 in
theorem evenC (I : Img) (M : List Res) (w : World) (p WT : Nat) (v : Value) (l : List UInt8) (hst : St I (row 5 1 v l.length (bvs l) :: bk p WT #[v] :: M) w) (hl : l.length ≤ 140737488351000) :
    Calls Try.prog 55 #[.pointer (some ⟨p, 0, none⟩)] w (Ret I (fun v' J M' => I = J ∧ Wrote M p WT (evenL l) v' M')) := by
  have H0 := Lib.hid hst
  clear hst
  go_enter Try.func55, Try.ntmps55
  go_wp2_with fail
  go_loopw [] (fun wr => Hid (∃ k v, k ≤ (4 - l.length % 4) % 4 ∧ St I (row 5 1 v (l ++ List.replicate k 0).length (bvs (l ++ List.replicate k 0)) :: bk p WT #[v] :: M) wr)) (fun wr => (4 - lenAt wr p % 4) % 4)
  case atStart => exact ⟨0, v, Nat.zero_le _, by simpa using H0.out⟩
  case round =>
    obtain ⟨k, v, hk, hs⟩ := hrel.out
    clear hrel H0
    obtain ⟨A, c, rfl⟩ := own_form (show wr.ownsRow 0 5 1 v _ _ from hs.head)
    obtain ⟨n, hln⟩ : ∃ n, n = (l ++ List.replicate k 0).length := ⟨_, rfl⟩
    have hnk : n = l.length + k := by rw [hln]; simp
    rw [← hln] at hs
    obtain ⟨hc, hf, hlt⟩ := (show Blk wr p WT #[.slice A n c] from hs.at 1 rfl).one
    have hlen : lenAt wr p = n := by unfold lenAt; rw [hc]
    have h1 : (n : Int) ≤ 140737488351232 := by omega
    have HLN := Lib.hid hlen
    clear hlen
    by_cases hlt2 : k < (4 - l.length % 4) % 4
    · have hq : ((n : Int) % 4 != 0) = true := by rw [bne_iff_ne]; omega
      have HC := Lib.hid (wU8 (I := I) p WT (.slice A n c) (l ++ List.replicate k 0) 0 (by rw [← hln]; exact hs) (by rw [← hln]; omega) (by decide))
      have HNK := Lib.hid hnk
      have HKL := Lib.hid hlt2
      clear hs hln hnk hlt2 hk hl
      go_wp2_with fail
      go_at_call 49
      refine HC.out.mono ?_
      rintro e W ⟨_, _, _, rfl, _, hs, rfl, rfl, v2, rfl⟩
      have e1 : l ++ List.replicate k 0 ++ [byteOf 0] = l ++ List.replicate (k + 1) 0 := by rw [rep_snoc, List.append_assoc]; rfl
      rw [e1] at hs
      have HS := Lib.hid hs
      have HM : Hid (lenAt W p = n + 1) := Lib.hid (by
        obtain ⟨A2, c2, rfl⟩ := own_form (show W.ownsRow 0 5 1 v2 _ _ from hs.head)
        obtain ⟨hc2, _, _⟩ := (show Blk W p WT #[_] from hs.at 1 rfl).one
        unfold lenAt
        rw [hc2]
        show (l ++ List.replicate (k + 1) 0).length = n + 1
        rw [HNK.out]; simp; omega)
      clear hs e1 HC
      go_wp2
      go_roundw
      case rel => exact ⟨k + 1, v2, by have := HKL.out; omega, HS.out⟩
      case measure =>
        rw [HM.out, HLN.out]
        have h1 := HNK.out
        have h2 := HKL.out
        omega
    · have hq : ((n : Int) % 4 != 0) = false := by rw [bne_eq_false_iff_eq]; omega
      have hkk : k = (4 - l.length % 4) % 4 := by omega
      rw [hln] at hs
      have HS := Lib.hid (show St I (row 5 1 (.slice A (evenL l).length c) (evenL l).length (bvs (evenL l)) :: bk p WT #[.slice A (evenL l).length c] :: M) wr from by rw [hkk] at hs; exact hs)
      clear hs hln hnk hkk hlt2 hk
      go_wp2
      go_returns
      exact Ret.mk (.refl I) HS.out ⟨rfl, rfl, _, rfl⟩
/-- a report's numbers are in their ranges, its total of 24 bits -/
structure RpOk (x : Rp) : Prop where
  src : 0 ≤ x.src ∧ x.src < 4294967296
  lost : 0 ≤ x.lost ∧ x.lost < 256
  total : 0 ≤ x.total ∧ x.total < 16777216
  high : 0 ≤ x.high ∧ x.high < 4294967296
  jit : 0 ≤ x.jit ∧ x.jit < 4294967296
  last : 0 ≤ x.last ∧ x.last < 4294967296
  delay : 0 ≤ x.delay ∧ x.delay < 4294967296
def repN (x : Rp) : List Int := [x.src, x.lost * 16777216 + x.total, x.high, x.jit, x.last, x.delay]
def u32Bs (l : List Int) : List UInt8 := l.flatMap u32B
def repL (x : Rp) : List UInt8 := u32Bs (repN x)
theorem repN_ok {x : Rp} (h : RpOk x) : ∀ n ∈ repN x, 0 ≤ n ∧ n < 4294967296 := by
  intro n hn
  have h1 := h.src; have h2 := h.lost; have h3 := h.total; have h4 := h.high; have h5 := h.jit; have h6 := h.last; have h7 := h.delay
  simp only [repN, List.mem_cons, List.mem_nil_iff, or_false] at hn
  rcases hn with rfl | rfl | rfl | rfl | rfl | rfl <;> omega
theorem u32Bs_len (l : List Int) : (u32Bs l).length = 4 * l.length := by
  induction l with
  | nil => rfl
  | cons x r ih =>
    show (u32B x ++ u32Bs r).length = _
    rw [List.length_append, ih, List.length_cons]
    show 4 + 4 * r.length = _
    omega
theorem u32Bs_snoc (l : List Int) (x : Int) : u32Bs (l ++ [x]) = u32Bs l ++ u32B x := by simp [u32Bs]
theorem or_low (a b s : Nat) (hb : b < 2 ^ s) (hs : 2 ^ s ≤ 4294967296) (ha : a * 2 ^ s < 4294967296) : bits BinOp.or IntKind.u32 ((a * 2 ^ s : Nat) : Int) (b : Int) = ((a * 2 ^ s + b : Nat) : Int) := by
  have hor : a * 2 ^ s ||| b = a * 2 ^ s + b := by
    have := Nat.shiftLeft_add_eq_or_of_lt (b := b) (i := s) hb a
    rw [Nat.shiftLeft_eq] at this
    exact this.symm
  have hlt : a * 2 ^ s ||| b < 2 ^ 32 := Nat.or_lt_two_pow (by simpa using ha) (by omega)
  have e2 : (BitVec.ofInt 32 ((a * 2 ^ s : Nat) : Int)).toNat = a * 2 ^ s := by
    rw [BitVec.ofInt_natCast, BitVec.toNat_ofNat]; exact Nat.mod_eq_of_lt (by omega)
  have e3 : (BitVec.ofInt 32 (b : Int)).toNat = b := by
    rw [BitVec.ofInt_natCast, BitVec.toNat_ofNat]; exact Nat.mod_eq_of_lt (by omega)
  show IntKind.u32.wrap ((BitVec.ofInt 32 ((a * 2 ^ s : Nat) : Int) ||| BitVec.ofInt 32 (b : Int)).toNat : Int) = _
  rw [BitVec.toNat_or, e2, e3, hor]
  rw [hor] at hlt
  simp only [IntKind.wrap, IntKind.signed, IntKind.bits]
  show ((a * 2 ^ s + b : Nat) : Int) % 4294967296 = _
  omega
theorem or_rep {a b : Int} (ha : 0 ≤ a ∧ a < 256) (hb : 0 ≤ b ∧ b < 16777216) : bits BinOp.or IntKind.u32 (a * 16777216) b = a * 16777216 + b := by
  obtain ⟨m, rfl⟩ := Int.eq_ofNat_of_zero_le ha.1
  obtain ⟨n, rfl⟩ := Int.eq_ofNat_of_zero_le hb.1
  have h := or_low m n 24 (by simp; omega) (by simp) (by simp; omega)
  have e : (m : Int) * 16777216 = ((m * 2 ^ 24 : Nat) : Int) := by simp
  rw [e, h]
  omega
theorem idx6 (a b c d e f : Int) (k : Nat) (hk : k < [a, b, c, d, e, f].length) (w : World) : (Instr.index 122 (.agg #[.int .u32 a, .int .u32 b, .int .u32 c, .int .u32 d, .int .u32 e, .int .u32 f]) (.int .i64 k)).run Try.prog w = .ok (.int .u32 ([a, b, c, d, e, f][k])) w := by
  have h : k = 0 ∨ k = 1 ∨ k = 2 ∨ k = 3 ∨ k = 4 ∨ k = 5 := by simp only [List.length_cons, List.length_nil] at hk; omega
  rcases h with rfl | rfl | rfl | rfl | rfl | rfl
  · have h := (by kernel_rfl : (Instr.index 122 (.agg #[.int .u32 a, .int .u32 b, .int .u32 c, .int .u32 d, .int .u32 e, .int .u32 f]) (.int .i64 0)).run Try.prog w = .ok (.int .u32 a) w)
    simpa using h
  · have h := (by kernel_rfl : (Instr.index 122 (.agg #[.int .u32 a, .int .u32 b, .int .u32 c, .int .u32 d, .int .u32 e, .int .u32 f]) (.int .i64 1)).run Try.prog w = .ok (.int .u32 b) w)
    simpa using h
  · have h := (by kernel_rfl : (Instr.index 122 (.agg #[.int .u32 a, .int .u32 b, .int .u32 c, .int .u32 d, .int .u32 e, .int .u32 f]) (.int .i64 2)).run Try.prog w = .ok (.int .u32 c) w)
    simpa using h
  · have h := (by kernel_rfl : (Instr.index 122 (.agg #[.int .u32 a, .int .u32 b, .int .u32 c, .int .u32 d, .int .u32 e, .int .u32 f]) (.int .i64 3)).run Try.prog w = .ok (.int .u32 d) w)
    simpa using h
  · have h := (by kernel_rfl : (Instr.index 122 (.agg #[.int .u32 a, .int .u32 b, .int .u32 c, .int .u32 d, .int .u32 e, .int .u32 f]) (.int .i64 4)).run Try.prog w = .ok (.int .u32 e) w)
    simpa using h
  · have h := (by kernel_rfl : (Instr.index 122 (.agg #[.int .u32 a, .int .u32 b, .int .u32 c, .int .u32 d, .int .u32 e, .int .u32 f]) (.int .i64 5)).run Try.prog w = .ok (.int .u32 f) w)
    simpa using h
set_option maxRecDepth 8000 in
set_option maxHeartbeats 4000000 in
theorem repW (I : Img) (M : List Res) (w : World) (p WT : Nat) (v : Value) (l : List UInt8) (x : Rp) (hx : RpOk x) (hst : St I (row 5 1 v l.length (bvs l) :: bk p WT #[v] :: M) w) (hl : l.length ≤ 140737488351000) :
    Calls Try.prog 54 #[.agg #[.int .u32 x.src, .int .u8 x.lost, .int .u32 x.total, .int .u32 x.high, .int .u32 x.jit, .int .u32 x.last, .int .u32 x.delay], .pointer (some ⟨p, 0, none⟩)] w (Ret I (fun v' J M' => I = J ∧ Wrote M p WT (l ++ repL x) v' M')) := by
  have hs1 := hst.grow (.cells #[.int .u32 x.src, .int .u8 x.lost, .int .u32 x.total, .int .u32 x.high, .int .u32 x.jit, .int .u32 x.last, .int .u32 x.delay] 65)
  have H1 := Lib.hid hs1
  have HN := Lib.hid (repN_ok hx)
  have hor := or_rep hx.lost hx.total
  obtain ⟨h1, h2⟩ := hx.lost
  obtain ⟨h3, h4⟩ := hx.total
  have HL := Lib.hid (show repN x = [x.src, x.lost * 16777216 + x.total, x.high, x.jit, x.last, x.delay] from rfl)
  clear hst hs1 hx
  go_enter Try.func54, Try.ntmps54
  go_wp2_with fail
  generalize World.alloc w _ = W at H1 ⊢
  generalize w.heap.size = q
  go_loopw [24] (fun iv wr => ∃ k : Nat, k ≤ 6 ∧ iv = .int .i64 k ∧ Hid (∃ v, St I (row 5 1 v (l ++ u32Bs ((repN x).take k)).length (bvs (l ++ u32Bs ((repN x).take k))) :: bk p WT #[v] :: M) wr)) (fun iv _ => 6 - (intOf iv).toNat)
  case atStart => exact ⟨0, by omega, rfl, v, by simpa [u32Bs] using H1.out⟩
  case round =>
    obtain ⟨k, hk, rfl, hh⟩ := hrel
    obtain ⟨v, hs⟩ := hh.out
    have HS := Lib.hid hs
    clear hs hh H1
    by_cases hlt : k < 6
    · have hlr : k < (repN x).length := hlt
      have hix := idx6 x.src (x.lost * 16777216 + x.total) x.high x.jit x.last x.delay k hlt
      have hmem := HN.out _ (List.getElem_mem hlr)
      have htk : (repN x).take (k + 1) = (repN x).take k ++ [(repN x)[k]'hlr] := List.take_succ_eq_append_getElem hlr
      obtain ⟨y, hy⟩ : ∃ y, y = (repN x)[k]'hlr := ⟨_, rfl⟩
      have hy2 : [x.src, x.lost * 16777216 + x.total, x.high, x.jit, x.last, x.delay][k]'hlt = y := hy.symm
      rw [← hy] at hmem htk
      simp only [hy2] at hix
      have HTK := Lib.hid htk
      obtain ⟨hy3, hy4⟩ := hmem
      have hln : ((repN x).take k).length ≤ 6 := by rw [List.length_take]; exact Nat.le_trans (Nat.min_le_left _ _) hk
      have HC := Lib.hid (wU32 (I := I) p WT v _ y HS.out (by rw [List.length_append, u32Bs_len]; omega) ⟨hy3, by omega⟩)
      clear htk hy hy2
      go_wp2_with fail
      go_at_call 48
      refine HC.out.mono ?_
      rintro e W2 ⟨_, _, _, rfl, _, hs, rfl, rfl, v2, rfl⟩
      rw [List.append_assoc, ← u32Bs_snoc, ← HTK.out] at hs
      have HS2 := Lib.hid hs
      clear hs HS HC
      go_wp2
      go_roundw
      case rel => exact ⟨k + 1, by omega, by go_num, v2, HS2.out⟩
      case measure => simp [intOf]; omega
    · have hk6 : k = 6 := by omega
      subst hk6
      have HS2 := Lib.hid (show St I (row 5 1 v (l ++ repL x).length (bvs (l ++ repL x)) :: bk p WT #[v] :: M) wr from HS.out)
      clear HS
      go_wp2
      go_returns
      exact Ret.mk (.refl I) HS2.out ⟨rfl, rfl, _, rfl⟩
end Go.Proofs.Ytddopbbmgpnjjaa
namespace Go.Proofs.Ytddopbbmgpnjjaa
open Go.RowKit
set_option linter.unusedSimpArgs false

/-- how far behind the next one of s -/
def dst (s x : Int) : Int := (x - s - 1) % 65536
def nearB (s x : Int) : Bool := decide (dst s x < 16)
theorem dst_wrap (s x : Int) : IntKind.u16.wrap (IntKind.u16.wrap (x - s) - 1) = dst s x := by
  rw [u16_mod, u16_mod]
  unfold dst
  omega
theorem dst_ok (s x : Int) : 0 ≤ dst s x ∧ dst s x ≤ 65535 := by unfold dst; omega
/-- a bit of a mask -/
def bitL (s x m : Int) : Int := bits BinOp.or IntKind.u16 m (IntKind.u16.wrap (2 ^ (dst s x).toNat))
def maskL (s : Int) (l : List Int) : Int := l.foldl (fun m x => if nearB s x then bitL s x m else m) 0
def farL (s : Int) (l : List Int) : List Int := l.filter fun x => !nearB s x
theorem farL_le (s : Int) (l : List Int) : (farL s l).length ≤ l.length := List.length_filter_le _ _
def piecesP : List Int → List (Int × Int)
  | [] => []
  | s :: r => (s, maskL s r) :: piecesP (farL s r)
termination_by l => l.length
decreasing_by
  have := farL_le s r
  simp
  omega
def pieceB (x : Int × Int) : List UInt8 := u16B x.1 ++ u16B x.2
def piecesB (l : List Int) : List UInt8 := (piecesP l).flatMap pieceB
theorem piecesB_nil : piecesB [] = [] := by unfold piecesB; rw [piecesP]; rfl
theorem piecesB_cons (s : Int) (r : List Int) : piecesB (s :: r) = pieceB (s, maskL s r) ++ piecesB (farL s r) := by unfold piecesB; rw [piecesP]; rfl
theorem maskL_snoc (s : Int) (l : List Int) (x : Int) : maskL s (l ++ [x]) = if nearB s x then bitL s x (maskL s l) else maskL s l := by simp [maskL]
theorem farL_snoc (s : Int) (l : List Int) (x : Int) : farL s (l ++ [x]) = if nearB s x then farL s l else farL s l ++ [x] := by
  unfold farL
  rw [List.filter_append]
  cases h : nearB s x <;> simp [h]
/-- what holds between two pieces: the image, what was written, what is left -/
abbrev PSt := Img × List UInt8 × Value
def XP (l D B p : Nat) (M : List Res) (o : Obj) (s : PSt) (W : World) : Prop := ∃ u, St s.1 (bk B 44 #[s.2.2] :: obk l o :: obk D (.deferred (some [])) :: row 5 1 u s.2.1.length (bvs s.2.1) :: bk p 60 #[u] :: M) W
def stepP (s : PSt) (x : Int × Int) : PSt := (s.1, s.2.1 ++ pieceB x, s.2.2)
def okP (s : PSt) (x : Int × Int) : Prop := s.2.1.length ≤ 140737488350000 ∧ (0 ≤ x.1 ∧ x.1 ≤ 65535) ∧ (0 ≤ x.2 ∧ x.2 ≤ 65535)
theorem bits_u16 (op : BinOp) (a b : Int) (h : op = .or) : 0 ≤ bits op IntKind.u16 a b ∧ bits op IntKind.u16 a b ≤ 65535 := by
  subst h
  show 0 ≤ IntKind.u16.wrap _ ∧ IntKind.u16.wrap _ ≤ 65535
  rw [u16_mod]
  omega
theorem maskL_ok (s : Int) (l : List Int) : 0 ≤ maskL s l ∧ maskL s l ≤ 65535 := by
  unfold maskL
  suffices h : ∀ (l : List Int) (m : Int), 0 ≤ m ∧ m ≤ 65535 → 0 ≤ l.foldl (fun m x => if nearB s x then bitL s x m else m) m ∧ l.foldl (fun m x => if nearB s x then bitL s x m else m) m ≤ 65535 from h l 0 (by decide)
  intro l
  induction l with
  | nil => intro m h; exact h
  | cons x r ih =>
    intro m h
    rw [List.foldl_cons]
    apply ih
    split
    · exact bits_u16 _ _ _ rfl
    · exact h
theorem piecesB_le : ∀ (n : Nat) (l : List Int), l.length ≤ n → (piecesB l).length ≤ 4 * l.length := by
  intro n
  induction n with
  | zero =>
    intro l h
    have e : l = [] := List.eq_nil_of_length_eq_zero (by omega)
    rw [e, piecesB_nil]
    simp
  | succ n ih =>
    intro l h
    rcases l with _ | ⟨s, r⟩
    · rw [piecesB_nil]; simp
    · rw [piecesB_cons, List.length_append, List.length_cons]
      have h1 := farL_le s r
      have h2 := ih (farL s r) (by rw [List.length_cons] at h; omega)
      have h3 : (pieceB (s, maskL s r)).length = 4 := rfl
      omega
theorem Cells.at0 {I : Img} {A : Option Addr} {v : Value} {cs : List Value} (h : Cells I A (v :: cs)) : ∃ g o, A = some ⟨g, o, none⟩ ∧ (∀ (M : List Res) (w : World), St I M w → w.cell? ⟨g, o, none⟩ = some v) ∧ Cells I (some ⟨g, o + 1, none⟩) cs := by
  obtain ⟨g, o, e, hc⟩ := h (by simp)
  refine ⟨g, o, e, fun M w hs => hs.cell (hc 0 (by simp)), fun h0 => ⟨g, o + 1, rfl, fun j hj => ?_⟩⟩
  have := hc (j + 1) (by simp; omega)
  rw [Nat.add_assoc, Nat.add_comm 1 j, this]
  rfl
theorem info42 : (Try.prog.info? 42).map (fun i => (i.zero, i.size, i.bytes)) = some (some (.int .u16 0), 1, 2) := by kernel_rfl
set_option maxRecDepth 100000 in
set_option maxHeartbeats 8000000 in
theorem pieces70 (I : Img) (M : List Res) (l D B p : Nat) (o : Obj) (l0 : List UInt8) (seqs : List Int) (A0 : Option Addr) (c0 : Nat) (hA : Cells I A0 (flat u16C seqs)) (hc0 : seqs.length ≤ c0) (hrng : ∀ x ∈ seqs, 0 ≤ x ∧ x ≤ 65535) (hln : seqs.length ≤ 17592186040000) (hl0 : l0.length ≤ 70368744170000)
    (hY : ∀ (s : PSt) (x : Int × Int) (W : World), XP l D B p M o s W → okP s x → YieldAt Fence.wide 0 Try.prog l #[.int .u16 x.1, .int .u16 x.2] W fun e W' => e = .returned (.bool true) ∧ XP l D B p M o (stepP s x) W')
    (w : World) (hX : XP l D B p M o (I, l0, .slice A0 seqs.length c0) w) :
    Calls Try.prog 70 #[.func (.yield l) #[] #[], .pointer (some ⟨B, 0, none⟩)] w fun e W' => (∃ v, e = .returned v) ∧ ∃ s : PSt, (I.le s.1 ∧ s.2.1 = l0 ++ piecesB seqs) ∧ XP l D B p M o s W' := by
  have H0 := Lib.hid (And.intro hA (And.intro hc0 (And.intro hrng (And.intro hln hX))))
  have HY := Lib.hid hY
  clear hA hc0 hrng hX hY
  go_enter Try.func70, Try.ntmps70
  go_wp2_with fail
  go_loopw [] (fun wr => Hid (∃ J bs A c L, I.le J ∧ Cells J A (flat u16C L) ∧ L.length ≤ c ∧ (∀ x ∈ L, 0 ≤ x ∧ x ≤ 65535) ∧ L.length ≤ 17592186040000 ∧ bs ++ piecesB L = l0 ++ piecesB seqs ∧ XP l D B p M o (J, bs, .slice A L.length c) wr)) (fun wr => lenAt wr B)
  case atStart => exact ⟨I, l0, A0, c0, seqs, .refl I, H0.out.1, H0.out.2.1, H0.out.2.2.1, H0.out.2.2.2.1, rfl, H0.out.2.2.2.2⟩
  case round =>
    obtain ⟨J, bs, A, c, L, hle, hcl, hlc, hrg, hll, hbs, u, hs⟩ := hrel.out
    clear hrel H0
    simp only at hs
    obtain ⟨hcB, hfB, hltB⟩ := (show Blk wr B 44 #[.slice A L.length c] from hs.at 0 rfl).one
    have hlen : lenAt wr B = L.length := by unfold lenAt; rw [hcB]
    have HLEN := Lib.hid hlen
    clear hlen
    rcases L with _ | ⟨s, r⟩
    · have HF := Lib.hid (show (∃ v, (Ending.returned (.tuple #[])) = .returned v) ∧ ∃ s : PSt, (I.le s.1 ∧ s.2.1 = l0 ++ piecesB seqs) ∧ XP l D B p M o s wr from ⟨⟨_, rfl⟩, (J, bs, .slice A 0 c), ⟨hle, by rw [← hbs, piecesB_nil, List.append_nil]⟩, u, hs⟩)
      clear hs hcl hbs hrg
      go_wp2
      go_returns
      exact HF.out
    · obtain ⟨g, o2, rfl, hcell⟩ := Cells.at0 (v := .int .u16 s) hcl
      have hcs := hcell.1 _ _ hs
      have hCT := Lib.hid hcell.2
      have HS := Lib.hid hs
      have HBS := Lib.hid hbs
      have HRG := Lib.hid hrg
      have hlr : r.length + 1 ≤ 17592186040000 := by simpa using hll
      have hlc2 : r.length + 1 ≤ c := by simpa using hlc
      have hlc3 : (r.length : Int) + 1 ≤ c := by omega
      rw [List.length_cons] at hcB HLEN
      clear hcell hs hbs hrg hll hlc hcl
      go_upto_block 2 with fail
      obtain ⟨A2, hA2⟩ : ∃ A2 : Option Addr, A2 = (if c = 1 then some ⟨g, o2, none⟩ else some ⟨g, o2 + 1, none⟩) := ⟨_, rfl⟩
      rw [← hA2]
      have HC2 : Hid (Cells J A2 (flat u16C r)) := Lib.hid (by
        rw [hA2]
        split
        · have hr : r = [] := by
            cases r
            · rfl
            · simp at hlc2; omega
          rw [hr]; exact Cells.nil _ _
        · exact hCT.out)
      have hmr : ∀ x ∈ r, 0 ≤ x ∧ x ≤ 65535 := fun x hx => HRG.out x (List.mem_cons_of_mem _ hx)
      have HMR := Lib.hid hmr
      clear hA2 hCT hmr
      go_cut [4, 5] (fun v4 v5 wx => v4 = .int .u16 (maskL s r) ∧ St J (row 42 1 v5 (farL s r).length (flat u16C (farL s r)) :: bk B 44 #[.slice (some ⟨g, o2, none⟩) (r.length + 1) c] :: obk l o :: obk D (.deferred (some [])) :: row 5 1 u bs.length (bvs bs) :: bk p 60 #[u] :: M) wx)
      case first =>
        go_wp2_with fail
        go_loopw [18, 4, 5] (fun iv v4 v5 wr => ∃ k : Nat, k ≤ r.length ∧ iv = .int .i64 k ∧ v4 = .int .u16 (maskL s (r.take k)) ∧ ∃ F c5, v5 = .slice F (farL s (r.take k)).length c5 ∧ Hid (St J (row 42 1 v5 (farL s (r.take k)).length (flat u16C (farL s (r.take k))) :: bk B 44 #[.slice (some ⟨g, o2, none⟩) (r.length + 1) c] :: obk l o :: obk D (.deferred (some [])) :: row 5 1 u bs.length (bvs bs) :: bk p 60 #[u] :: M) wr)) (fun iv _ _ _ => r.length - (intOf iv).toNat)
        case atStart => exact ⟨0, by omega, rfl, rfl, none, 0, rfl, HS.out.nil⟩
        case round =>
          obtain ⟨k, hk, rfl, rfl, F, c5, rfl, hh⟩ := hrel
          by_cases hlt : k < r.length
          · obtain ⟨gx, ox, rfl, hcx⟩ := flat_get (s := 1) (fun _ => rfl) HC2.out (by omega) (by decide)
            replace hcx : wr.cell? ⟨gx, ox + k, none⟩ = some (.int .u16 r[k]) := by
              have := hcx _ _ hh.out k hlt 0 (by decide)
              simpa using this
            have hmem := HMR.out _ (List.getElem_mem hlt)
            obtain ⟨x, hx⟩ : ∃ x, x = r[k] := ⟨_, rfl⟩
            have htk : r.take (k + 1) = r.take k ++ [x] := by rw [hx]; exact List.take_succ_eq_append_getElem hlt
            rw [← hx] at hcx hmem
            have hdw := dst_wrap s x
            have hdo := dst_ok s x
            have hfl : (farL s (r.take k)).length ≤ k := by have h1 := farL_le s (r.take k); rw [List.length_take] at h1; omega
            have HTK := Lib.hid htk
            have HH := Lib.hid hh.out
            clear htk hx hh
            have hM1 := maskL_snoc s (r.take k) x
            have hF1 := farL_snoc s (r.take k) x
            rw [← HTK.out] at hM1 hF1
            by_cases hb : dst s x < 16
            · have hn : nearB s x = true := decide_eq_true hb
              rw [hn, if_pos rfl] at hM1 hF1
              have HM := Lib.hid (And.intro hM1 hF1)
              clear hM1 hF1 hn hfl hmem
              go_wp2
              go_roundw
              case rel => exact ⟨k + 1, by omega, by go_num, by rw [HM.out.1]; rfl, F, c5, by rw [HM.out.2], by rw [HM.out.2]; exact HH.out⟩
              case measure => simp [intOf]; omega
            · have hn : nearB s x = false := decide_eq_false hb
              have hb2 : decide (dst s x < 16) = false := hn
              rw [hn] at hM1 hF1
              simp only [Bool.false_eq_true, if_false] at hM1 hF1
              have HM := Lib.hid (And.intro hM1 hF1)
              obtain ⟨i0, hi, hz0, hz1, hz2⟩ := info_parts info42
              have Hs := Lib.hid (HH.out.litSrcV (P := Try.prog) (size := 1) (n := 1) (t := 44) (e := 42) (cs := #[.int .u16 x]) rfl (by decide) Try.underlying44 (by simp [Value.oneCell']))
              have H := Lib.hid (HH.out.grow (.cells #[.int .u16 x] 42))
              have HFL := Lib.hid hfl
              clear hM1 hF1 hn hmem HH hfl hb
              go_wp2_with (at_builtin; refine wpList_append_src _ rfl _ _ 44 44 rfl 0 42 i0 (.int .u16 0) 1 2 Try.underlying44 hi hz0 hz1 hz2 rfl _ (farL s (r.take k)).length (flat u16C (farL s (r.take k))) rfl H.out.head _ _ _ rfl Hs.out (by have := HFL.out; unfold maxLen; omega) (by have := HFL.out; omega) (Nat.zero_le _) ?_)
              intro v' w3 hown hgrow hat
              have hown2 : w3.ownsRow 0 42 1 v' (farL s (r.take (k + 1))).length (flat u16C (farL s (r.take (k + 1)))) := by
                rw [HM.out.2, flat_append, List.length_append]
                exact hown
              have hs3 := H.out.grown hgrow hown2 (by simpa using hat)
              obtain ⟨F', c', rfl⟩ := own_form hown2
              have HS3 := Lib.hid hs3
              clear hown hown2 hgrow hat hs3 Hs H
              go_wp2
              go_roundw
              case rel => exact ⟨k + 1, by omega, by go_num, by rw [HM.out.1], F', c', rfl, HS3.out⟩
              case measure => simp [intOf]; omega
          · have hkk : k = r.length := by omega
            subst hkk
            have HF := Lib.hid (show maskL s (r.take r.length) = maskL s r ∧ St J (row 42 1 (.slice F (farL s (r.take r.length)).length c5) (farL s r).length (flat u16C (farL s r)) :: bk B 44 #[.slice (some ⟨g, o2, none⟩) (r.length + 1) c] :: obk l o :: obk D (.deferred (some [])) :: row 5 1 u bs.length (bvs bs) :: bk p 60 #[u] :: M) wr from by
              have h := hh.out
              rw [List.take_length] at h ⊢
              exact ⟨rfl, h⟩)
            clear hh
            go_wp2
            go_meet
            exact ⟨by rw [HF.out.1], HF.out.2⟩
      case rest =>
        obtain ⟨rfl, hs⟩ := hcut
        obtain ⟨F, c5, rfl⟩ := own_form (show wc.ownsRow 0 42 1 u5 _ _ from hs.head)
        have hcap := (own_cap hs.head).2
        obtain ⟨J2, hle2, hs2, hF⟩ := hs.freezeRow
        have hfl := farL_le s r
        have hok : okP (J2, bs, .slice (some ⟨g, o2, none⟩) (r.length + 1) c) (s, maskL s r) := by
          refine ⟨?_, HRG.out s (by simp), maskL_ok s r⟩
          have h1 := congrArg List.length HBS.out
          rw [List.length_append, List.length_append] at h1
          have h2 := piecesB_le _ seqs (Nat.le_refl _)
          show bs.length ≤ _
          omega
        have hy0 := HY.out (J2, bs, .slice (some ⟨g, o2, none⟩) (r.length + 1) c) (s, maskL s r) wc ⟨u, hs2⟩ hok
        simp only at hy0
        obtain ⟨fn, tmps, assign, body, hy, hR⟩ := hy0
        have HR := Lib.hid hR
        have HF := Lib.hid (And.intro (hle.trans hle2) (And.intro hF hcap))
        clear hs hs2 hF hcap hok hcB hfB hltB hcs HS hle hle2 hR
        go_upto_region 11 with fail
        refine (wpIn_wide (n := 0)).1 ?_
        gi_wp2
        refine ⟨rfl, HR.out.mono ?_⟩
        rintro e W' ⟨rfl, u', hs⟩
        obtain ⟨hcB, hfB, hltB⟩ := (show Blk W' B 44 #[.slice (some ⟨g, o2, none⟩) (r.length + 1) c] from hs.at 0 rfl).one
        have hs2 : St J2 (bk B 44 #[.slice F (farL s r).length c5] :: obk l o :: obk D (.deferred (some [])) :: row 5 1 u' (bs ++ pieceB (s, maskL s r)).length (bvs (bs ++ pieceB (s, maskL s r))) :: bk p 60 #[u'] :: M) (W'.setCell ⟨B, 0, none⟩ (.slice F (farL s r).length c5)) := hs.set 0 _
        have HS2 := Lib.hid hs2
        have HREL : Hid (bs ++ pieceB (s, maskL s r) ++ piecesB (farL s r) = l0 ++ piecesB seqs) := Lib.hid (by rw [List.append_assoc, ← piecesB_cons]; exact HBS.out)
        have HLN : Hid (lenAt (W'.setCell ⟨B, 0, none⟩ (.slice F (farL s r).length c5)) B = (farL s r).length) := Lib.hid (by
          obtain ⟨h, _, _⟩ := (show Blk _ B 44 #[.slice F (farL s r).length c5] from hs2.at 0 rfl).one
          unfold lenAt; rw [h])
        clear hs hs2 HR hy
        gi_wp2
        go_wp2
        go_roundw
        case rel => exact ⟨J2, bs ++ pieceB (s, maskL s r), F, c5, farL s r, HF.out.1, HF.out.2.1, HF.out.2.2, fun x hx => HRG.out x (List.mem_cons_of_mem _ (List.mem_filter.1 hx).1), by omega, HREL.out, u', HS2.out⟩
        case measure => rw [HLN.out, HLEN.out]; omega
end Go.Proofs.Ytddopbbmgpnjjaa
namespace Go.Proofs.Ytddopbbmgpnjjaa
open Go.RowKit
set_option linter.unusedSimpArgs false

/-- an arrival's mark -/
def markOf (a : Int) : Int := if a = 65536 then 0 else if 0 ≤ a ∧ a ≤ 255 then 1 else 2
def markP (a : Int) : Int × Int := (markOf a, a)
set_option maxRecDepth 100000 in
set_option maxHeartbeats 8000000 in
theorem marks71 {σ : Type} (ok : σ → Int × Int → Prop) (step : σ → Int × Int → σ) (X : σ → World → Prop) (I : Img) (l B : Nat) (list : List Int) (A : Option Addr) (c : Nat) (hA : Cells I A (flat intC list)) (hln : list.length ≤ 17592186040000)
    (hst : ∀ s W, X s W → ∃ M', St I (bk B 48 #[.slice A list.length c] :: M') W)
    (hY : ∀ (s : σ) (x : Int × Int) (W : World), X s W → ok s x → YieldAt Fence.wide 0 Try.prog l #[.int .i64 x.1, .int .i64 x.2] W fun e W' => e = .returned (.bool true) ∧ X (step s x) W')
    (s0 : σ) (hok : ∀ k (h : k < list.length), ok (((list.take k).map markP).foldl step s0) (markP list[k]))
    (w : World) (hX : X s0 w) :
    Calls Try.prog 71 #[.func (.yield l) #[] #[], .pointer (some ⟨B, 0, none⟩)] w fun e W' => (∃ v, e = .returned v) ∧ X ((list.map markP).foldl step s0) W' := by
  have H0 := Lib.hid hX
  have HY := Lib.hid hY
  have HST := Lib.hid hst
  have HOK := Lib.hid hok
  have HA := Lib.hid hA
  obtain ⟨M0, hs0⟩ := hst _ _ hX
  obtain ⟨hcB, hfB, hltB⟩ := (show Blk w B 48 #[.slice A list.length c] from hs0.at 0 rfl).one
  clear hX hY hst hok hA hs0
  go_enter Try.func71, Try.ntmps71
  go_wp2_with fail
  go_loopw [8] (fun iv wr => ∃ k : Nat, k ≤ list.length ∧ iv = .int .i64 k ∧ Hid (X (((list.take k).map markP).foldl step s0) wr)) (fun iv _ => list.length - (intOf iv).toNat)
  case atStart => exact ⟨0, by omega, rfl, H0.out⟩
  case round =>
    obtain ⟨k, hk, rfl, hh⟩ := hrel
    clear H0 hcB hfB hltB
    by_cases hlt : k < list.length
    · obtain ⟨M1, hs1⟩ := HST.out _ _ hh.out
      obtain ⟨g, o, rfl, hcell⟩ := flat_get (s := 1) (fun _ => rfl) HA.out (by omega) (by decide)
      replace hcell : wr.cell? ⟨g, o + k, none⟩ = some (.int .i64 list[k]) := by
        have := hcell _ _ hs1 k hlt 0 (by decide)
        simpa using this
      have hy0 := HY.out _ (markP list[k]) wr hh.out (HOK.out k hlt)
      have htk : (list.take (k + 1)).map markP = (list.take k).map markP ++ [markP list[k]] := by
        rw [List.take_succ_eq_append_getElem hlt, List.map_append]; rfl
      obtain ⟨x, hx⟩ : ∃ x, x = list[k] := ⟨_, rfl⟩
      rw [← hx] at hcell hy0 htk
      obtain ⟨fn, tmps, assign, body, hy, hR⟩ := hy0
      have HR := Lib.hid hR
      have HTK := Lib.hid htk
      have HW := Lib.hid (withinC x 0 255 wr)
      clear hs1 hx htk hh hR
      simp only [markP] at hy
      go_upto_block 2 with fail
      go_cut [5] (fun v5 wx => v5 = .int .i64 (markOf x) ∧ wx = wr)
      case first =>
        by_cases h1 : x = 65536
        · have HE := Lib.hid (show markOf x = 0 from by unfold markOf; rw [if_pos h1])
          have g1 : (x == 65536) = true := by rw [h1]; rfl
          clear h1
          go_wp2
          go_meet
          exact ⟨by rw [HE.out], rfl⟩
        · have g1 : (x == 65536) = false := beq_eq_false_iff_ne.2 h1
          cases hb : withinB x 0 255
          · have HE := Lib.hid (show markOf x = 2 from by unfold markOf; rw [if_neg h1, if_neg (within_no hb)])
            clear h1
            go_wp2_with fail
            go_at_call 19
            refine HW.out.mono ?_
            rintro e w2 ⟨rfl, hw⟩
            subst hw
            go_wp2
            go_meet
            exact ⟨by rw [HE.out], rfl⟩
          · have HE := Lib.hid (show markOf x = 1 from by unfold markOf; rw [if_neg h1, if_pos (within_yes hb)])
            clear h1
            go_wp2_with fail
            go_at_call 19
            refine HW.out.mono ?_
            rintro e w2 ⟨rfl, hw⟩
            subst hw
            go_wp2
            go_meet
            exact ⟨by rw [HE.out], rfl⟩
      case rest =>
        obtain ⟨rfl, rfl⟩ := hcut
        go_upto_region 8 with fail
        refine (wpIn_wide (n := 0)).1 ?_
        gi_wp2
        refine ⟨rfl, HR.out.mono ?_⟩
        rintro e W' ⟨rfl, hX⟩
        have HX : Hid (X (((list.take (k + 1)).map markP).foldl step s0) W') := Lib.hid (by rw [HTK.out, List.foldl_append]; exact hX)
        clear hX HR hy
        gi_wp2
        go_wp2
        go_roundw
        case rel => exact ⟨k + 1, by omega, by go_num, HX.out⟩
        case measure => simp [intOf]; omega
    · have hkk : k = list.length := by omega
      subst hkk
      have HF : Hid (X ((list.map markP).foldl step s0) wr) := Lib.hid (by have h := hh.out; rw [List.take_length] at h; exact h)
      clear hh
      go_wp2
      go_returns
      exact ⟨⟨_, rfl⟩, HF.out⟩
end Go.Proofs.Ytddopbbmgpnjjaa
namespace Go.Proofs.Ytddopbbmgpnjjaa
open Go.RowKit
set_option linter.unusedSimpArgs false

/-- marks and distances, one more arrival -/
structure Ms where
  mks : List UInt8
  far : List UInt8
  n : Nat
  ch : Int
def chM (s : Ms) (m : Int) : Int := bits BinOp.or IntKind.u16 s.ch (IntKind.u16.wrap (m * 2 ^ (12 - 2 * (s.n % 7))))
def fullM (N : Nat) (s : Ms) : Bool := decide ((s.n + 1) % 7 = 0) || decide (s.n + 1 = N)
def stepM (N : Nat) (s : Ms) (x : Int × Int) : Ms where
  mks := if fullM N s then s.mks ++ u16B (bits BinOp.or IntKind.u16 49152 (chM s x.1)) else s.mks
  far := if x.1 = 1 then s.far ++ [byteOf (x.2 % 256)] else if x.1 = 2 then s.far ++ u16B (x.2 % 65536) else s.far
  n := s.n + 1
  ch := if fullM N s then 0 else chM s x.1
def ms0 : Ms := ⟨[], [], 0, 0⟩
def arrsM (l : List Int) : Ms := (l.map markP).foldl (stepM l.length) ms0
def arrsL (l : List Int) : List UInt8 := (arrsM l).mks ++ (arrsM l).far
def wnL (x : Wn) : List UInt8 := u32B x.src ++ u32B (x.seq * 16777216)
/-- what stands behind sender and media, of a kind -/
def kindL (p : Pk) : List UInt8 :=
  if p.kind = 1 then u32Bs [p.ntp / 4294967296, p.ntp % 4294967296, p.rtp, p.pkts, p.octs]
  else if p.kind = 3 then [byteOf 1, byteOf p.name.size] ++ p.name.data.toList ++ [byteOf 0]
  else if p.kind = 5 then piecesB p.seqs
  else if p.kind = 6 then u16B p.base ++ u16B p.arrs.length ++ u32B (p.ref * 256 + p.count) ++ arrsL p.arrs
  else []
def bodyL (p : Pk) : List UInt8 :=
  (if p.kind = 4 then [] else u32B p.sender) ++ (if 5 ≤ p.kind then u32B p.media else []) ++ kindL p ++ p.reps.flatMap repL ++ u32Bs p.srcs ++ p.wants.flatMap wnL
def lowP (p : Pk) : Int := if (whereP p.kind).2 < 0 then p.reps.length + p.srcs.length else (whereP p.kind).2
/-- a packet's bytes -/
def packB (p : Pk) : List UInt8 := [byteOf (128 + lowP p), byteOf (whereP p.kind).1] ++ u16B ((evenL (bodyL p)).length / 4 : Nat) ++ evenL (bodyL p)
/-- numbers in their ranges -/
structure PkOk (p : Pk) : Prop where
  sender : 0 ≤ p.sender ∧ p.sender ≤ 4294967295
  media : 0 ≤ p.media ∧ p.media ≤ 4294967295
  ntp : 0 ≤ p.ntp ∧ p.ntp ≤ 18446744073709551615
  rtp : 0 ≤ p.rtp ∧ p.rtp ≤ 4294967295
  pkts : 0 ≤ p.pkts ∧ p.pkts ≤ 4294967295
  octs : 0 ≤ p.octs ∧ p.octs ≤ 4294967295
  reps : ∀ x ∈ p.reps, RpOk x
  srcs : ∀ x ∈ p.srcs, 0 ≤ x ∧ x ≤ 4294967295
  seqs : ∀ x ∈ p.seqs, 0 ≤ x ∧ x ≤ 65535
  base : 0 ≤ p.base ∧ p.base ≤ 65535
  ref : 0 ≤ p.ref ∧ p.ref ≤ 16777215
  count : 0 ≤ p.count ∧ p.count ≤ 255
  wants : ∀ x ∈ p.wants, (0 ≤ x.src ∧ x.src ≤ 4294967295) ∧ (0 ≤ x.seq ∧ x.seq ≤ 255)
theorem flatU32 (l : List Int) : u32Bs l = l.flatMap u32B := rfl
/-- two first ones behind three others -/
theorem St.rot23 {I : Img} {M : List Res} {w : World} {a b c d e : Res} (h : St I (a :: b :: c :: d :: e :: M) w) : St I (d :: e :: a :: b :: c :: M) w :=
  h.perm (List.Perm.append_right M (List.perm_append_comm (l₁ := [a, b, c]) (l₂ := [d, e])))
theorem St.rot32 {I : Img} {M : List Res} {w : World} {a b c d e : Res} (h : St I (a :: b :: c :: d :: e :: M) w) : St I (c :: d :: e :: a :: b :: M) w :=
  h.perm (List.Perm.append_right M (List.perm_append_comm (l₁ := [a, b]) (l₂ := [c, d, e])))
end Go.Proofs.Ytddopbbmgpnjjaa
