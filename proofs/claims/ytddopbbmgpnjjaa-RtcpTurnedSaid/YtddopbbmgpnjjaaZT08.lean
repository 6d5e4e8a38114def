/- part. -/
import Derived.Test.YtddopbbmgpnjjaaZT07
import Derived.RangeFuncNested
import Derived.RangeFuncBound
import Derived.RangeFuncCalls
import Derived.RangeFuncLeaves
namespace Go.Proofs.Ytddopbbmgpnjjaa
set_option linter.unusedSimpArgs false
open Go.RowKit
theorem infoU8 : (Try.prog.info? 5).map (fun i => (i.zero, i.size, i.bytes)) = some (some (.int .u8 0), 1, 1) := by kernel_rfl
def NewB (I : Zh) (M : List Zt) (bs : List UInt8) (v : Value) (J : Zh) (M' : List Zt) : Prop := I = J /\ ∃ A c, v = .slice A bs.length c /\ bs.length <= c /\ M' = row 5 1 v bs.length (Z6 bs) :: M
section
variable {I : Zh} {M : List Zt} {w : World}
set_option maxRecDepth 8000 in
set_option maxHeartbeats 400000 in
theorem clone_src (A : Option Addr) (c : Nat) (bs : List UInt8) (ZX : St I M w) (hs : ∀ w', St I M w' -> Src Try.prog 1 24 (.slice A bs.length c) bs.length (Z6 bs) w') (hn : A = none -> bs = []) (hl : bs.length <= 140737488351232) :
  Calls Try.prog 58 #[.slice A bs.length c] w (YR I (NewB I M bs)) := by
 obtain ⟨i0, hi, hz0, hz1, hz2⟩ := info_parts infoU8
 have hq := Lib.run_eql_slice_nil (P := Try.prog) w 24 5 A bs.length c 0 0 Try.underlying24
 match A with
 | none =>
  have h0 := hn rfl
  subst h0
  show Calls Try.prog 58 #[.slice none 0 c] w (YR I (NewB I M []))
  replace hq : (binOp .eql 24 (.slice none 0 c) (.slice none 0 0)).run Try.prog w = .ok (.bool true) w := hq
  have H := VL ZX
  clear hs hl hn ZX
  go_enter Try.func58, Try.ntmps58
  go_wp2
  go_ret
  exact YR.mk (.refl I) H.out.nil ⟨rfl, none, 0, rfl, Nat.le_refl _, rfl⟩
 | some a =>
  have hst1 := (ZX.alloc 5 #[]).drop
  have hsrc := hs _ hst1
  have hown := World.ownsRow_lit (base := w.heap.size) (e := 5) (size := 1) w #[] 0 (Nat.le_refl _) (Nat.zero_le _) rfl
  have Hs := VL hsrc
  have Ho := VL hown
  have Hst1 := VL hst1
  have Hst := VL ZX
  clear hsrc hown hst1 hs hn ZX
  go_enter Try.func58, Try.ntmps58
  go_wp2_with (at_builtin; refine Zj _ rfl _ _ 24 24 rfl w.heap.size 5 i0 (.int .u8 0) 1 1 Try.underlying24 hi hz0 hz1 hz2 rfl _ _ _ rfl Ho.out _ _ _ rfl Hs.out (by unfold maxLen; omega) (by omega) (by simp) ?_)
  intro v' w3 Z9 Zr _
  have hB := ((Below.refl w.heap.size w).alloc (Nat.le_refl _) (.cells #[] 5)).grown Zr (by simp) (fun k hk => by simp [Value.ownBlock] at hk; omega)
  have Zb : w3.ownsRow w.heap.size 5 1 v' bs.length (Z6 bs) := by simpa using Z9
  have HS := VL (St.fresh Hst.out (Hst.out.below hB) Zb)
  obtain ⟨A', cap', rfl⟩ := ZW Zb
  have hc := (Yh Zb).2
  clear Z9 Zb Zr hB
  go_wp2
  go_ret
  exact YR.mk (.refl I) HS.out ⟨rfl, A', cap', rfl, hc, rfl⟩
theorem clone (A : Option Addr) (c : Nat) (bs : List UInt8) (ZX : St I M w) (hb : Zq I A bs) (hl : bs.length <= 140737488351232) :
  Calls Try.prog 58 #[.slice A bs.length c] w (YR I (NewB I M bs)) :=
 clone_src A c bs ZX (fun _ h => hb.src h Try.underlying24 c) (fun h => by
  subst h
  rcases bs with _ | ⟨b, r⟩
  ·rfl
  obtain ⟨_, _, e, _⟩ := hb (by simp [Z6]); cases e) hl
abbrev RS := List UInt8 × Bool
def Zl (n : Int) (r : RS) : List UInt8 × RS := if r.2 = true \/ n < 0 \/ (r.1.length : Int) < n then ([], (r.1, true)) else (r.1.take n.toNat, (r.1.drop n.toNat, false))
theorem cutS_len (n : Int) (r : RS) (k : Nat) (h : n <= k) : (Zl n r).1.length <= k := by
 unfold Zl
 split
 ·simp
 rw [List.length_take]; omega
theorem cutS_le (n : Int) (r : RS) : (Zl n r).1.length <= r.1.length := by
 unfold Zl
 split
 ·simp
 rw [List.length_take]; omega
theorem Ze (n : Int) (r : RS) : (Zl n r).2.1.length <= r.1.length := by
 unfold Zl
 split
 ·exact Nat.le_refl _
 rw [List.length_drop]; omega
def YP (l : List UInt8) : Nat := l.foldl (fun x c => x * 256 + c.toNat) 0
theorem numL_snoc (l : List UInt8) (c : UInt8) : YP (l ++ [c]) = YP l * 256 + c.toNat := by simp [YP]
theorem numL_lt_aux (l : List UInt8) : ∀ acc : Nat, l.foldl (fun x c => x * 256 + c.toNat) acc < (acc + 1) * 256 ^ l.length := by
 induction l with
 | nil => intro acc; simp
 | cons c r ih =>
  intro acc
  have h1 := ih (acc * 256 + c.toNat)
  have h2 := c.toNat_lt
  have h3 : (acc * 256 + c.toNat + 1) * 256 ^ r.length <= ((acc + 1) * 256) * 256 ^ r.length := Nat.mul_le_mul_right _ (by omega)
  rw [List.foldl_cons, List.length_cons, Nat.pow_succ, Nat.mul_comm (256 ^ r.length) 256, <- Nat.mul_assoc]
  omega
theorem numL_lt (l : List UInt8) : YP l < 256 ^ l.length := by
 have := numL_lt_aux l 0
 simpa [YP] using this
theorem lor_add (q x : Nat) (hx : x < 256) : q * 256 ||| x = q * 256 + x := by
 have := Nat.shiftLeft_add_eq_or_of_lt (b := x) (i := 8) (by simpa using hx) q
 rw [Nat.shiftLeft_eq] at this
 simpa using this.symm
theorem or_u32 (q x : Nat) (hx : x < 256) (hq : q < 16777216) : bits BinOp.or IntKind.u32 ((q : Int) * 256) ((x : Int) % 4294967296) = ((q * 256 + x : Nat) : Int) := by
 have e1 : (x : Int) % 4294967296 = (x : Int) := by omega
 have e2 : (BitVec.ofInt 32 (((q * 256 : Nat) : Int))).toNat = q * 256 := by
  rw [BitVec.ofInt_natCast, BitVec.toNat_ofNat]; exact Nat.mod_eq_of_lt (by omega)
 have e3 : (BitVec.ofInt 32 (x : Int)).toNat = x := by
  rw [BitVec.ofInt_natCast, BitVec.toNat_ofNat]; exact Nat.mod_eq_of_lt (by omega)
 rw [e1, show ((q : Int) * 256) = ((q * 256 : Nat) : Int) by omega]
 show IntKind.u32.wrap ((BitVec.ofInt 32 ((q * 256 : Nat) : Int) ||| BitVec.ofInt 32 (x : Int)).toNat : Int) = _
 rw [BitVec.toNat_or, e2, e3, lor_add q x hx]
 simp only [IntKind.wrap, IntKind.signed, IntKind.bits]
 show ((q * 256 + x : Nat) : Int) % 4294967296 = _
 omega
def Rdr (I : Zh) (p : Nat) (r : RS) (b : Zt) : Prop := ∃ A c, b = bk p 109 #[.slice A r.1.length c, .bool r.2] /\ Zq I A r.1 /\ r.1.length <= c
theorem Rdr.mono {J : Zh} {p : Nat} {r : RS} {b : Zt} (h : Rdr I p r b) (hl : I.le J) : Rdr J p r b := by
 obtain ⟨A, c, e, hb, hc⟩ := h
 exact ⟨A, c, e, hb.mono hl, hc⟩
set_option maxHeartbeats 400000 in
theorem WY (p : Nat) (r : RS) (b : Zt) (ZX : St I (b :: M) w) (h : Rdr I p r b) :
  Calls Try.prog 29 #[.pointer (some ⟨p, 0, none⟩)] w fun e w' => e = .returned (.bool r.2) /\ w = w' := by
 obtain ⟨A, c, rfl, hb, _⟩ := h
 obtain ⟨_, hc, _⟩ := ZO.two ZX.head
 clear ZX hb
 go_enter Try.func29, Try.ntmps29
 go_wp2
 go_ret
 exact ⟨rfl, rfl⟩
set_option maxHeartbeats 400000 in
theorem Wi (p : Nat) (r : RS) (b : Zt) (ZX : St I (b :: M) w) (h : Rdr I p r b) :
  Calls Try.prog 25 #[.pointer (some ⟨p, 0, none⟩)] w fun e w' => e = .returned (.int .i64 r.1.length) /\ w = w' := by
 obtain ⟨A, c, rfl, hb, _⟩ := h
 obtain ⟨hc, _⟩ := ZO.two ZX.head
 clear ZX hb
 go_enter Try.func25, Try.ntmps25
 go_wp2
 go_ret
 exact ⟨rfl, rfl⟩
def CutQ (I : Zh) (M : List Zt) (p : Nat) (n : Int) (r : RS) (v : Value) (J : Zh) (M' : List Zt) : Prop :=
 I = J /\ ∃ A c b', v = .slice A (Zl n r).1.length c /\ Zq I A (Zl n r).1 /\ (Zl n r).1.length <= c /\ Rdr I p (Zl n r).2 b' /\ M' = b' :: M
set_option maxHeartbeats 400000 in
theorem rd_cut (p : Nat) (n : Int) (r : RS) (b : Zt) (ZX : St I (b :: M) w) (h : Rdr I p r b) (hn : n <= 9223372036854775807) :
  Calls Try.prog 60 #[.pointer (some ⟨p, 0, none⟩), .int .i64 n] w (YR I (CutQ I M p n r)) := by
 obtain ⟨bs, bad⟩ := r
 have hbad := WY p (bs, bad) b ZX h
 obtain ⟨A, c, rfl, hB, hcap⟩ := h
 simp only at hB hcap ZX
 obtain ⟨hc0, Zc, hf0, hf1, Z0⟩ := ZO.two ZX.head
 have H := VL ZX
 have HB := VL hB
 have Hbad := VL hbad
 clear ZX hB hbad
 by_cases hx : bad = true \/ n < 0 \/ (bs.length : Int) < n
 ·have hS : Zl n (bs, bad) = ([], (bs, true)) := by simp only [Zl]; rw [if_pos hx]
  have Fin := VL (show YR I (CutQ I M p n (bs, bad)) (.returned (.slice none 0 0)) (w.setCell ⟨p, 1, none⟩ (.bool true)) from
   YR.mk (.refl I) (H.out.set 1 (.bool true)) ⟨rfl, none, 0, bk p 109 #[.slice A bs.length c, .bool true], by rw [hS]; rfl, by rw [hS]; exact Zq.nil _ _, by rw [hS]; exact Nat.zero_le _, by rw [hS]; exact ⟨A, c, rfl, HB.out, hcap⟩, rfl⟩)
  clear hS
  cases bad with
  | true =>
   clear hx
   go_enter Try.func60, Try.ntmps60
   go_wp2_with (go_at_call 29; refine Hbad.out.mono ?_; rintro e w' ⟨rfl, rfl⟩)
   go_ret
   exact Fin.out
  | false =>
   by_cases h0 : n < 0
   ·clear hx
    go_enter Try.func60, Try.ntmps60
    go_wp2_with (go_at_call 29; refine Hbad.out.mono ?_; rintro e w' ⟨rfl, rfl⟩)
    go_ret
    exact Fin.out
   have h1 : (bs.length : Int) < n := by simpa [h0] using hx
   have h0' : decide (n < 0) = false := by simpa using h0
   clear hx
   go_enter Try.func60, Try.ntmps60
   go_wp2_with (go_at_call 29; refine Hbad.out.mono ?_; rintro e w' ⟨rfl, rfl⟩)
   go_ret
   exact Fin.out
 have hS : Zl n (bs, bad) = (bs.take n.toNat, (bs.drop n.toNat, false)) := by simp only [Zl]; rw [if_neg hx]
 have hb : bad = false := by simpa using fun h => hx (.inl h)
 subst hb
 have h0 : 0 <= n := by omega
 have h1 : n <= (bs.length : Int) := by omega
 have h2 : decide (n < 0) = false := by simpa using h0
 have h3 : decide ((bs.length : Int) < n) = false := by simpa using h1
 clear hx
 obtain ⟨k, rfl⟩ := Int.eq_ofNat_of_zero_le h0
 rw [Int.toNat_natCast] at hS
 have hkl : k <= bs.length := by omega
 have fin : YR I (CutQ I M p k (bs, false)) (.returned (.slice A k c)) (w.setCell ⟨p, 0, none⟩ (.slice (if c = k then A else A.map (·.add k)) (bs.length - k) (c - k))) := by
  have hlen : (bs.take k).length = k := by rw [List.length_take]; omega
  refine YR.mk (.refl I) (H.out.set 0 _) ⟨rfl, A, c, bk p 109 #[.slice (if c = k then A else A.map (·.add k)) (bs.length - k) (c - k), .bool false], by rw [hS, hlen], by rw [hS]; exact HB.out.take k, by rw [hS, hlen]; omega, ?_, rfl⟩
  rw [hS]
  exact ⟨_, c - k, by rw [List.length_drop], HB.out.drop (n := k) hcap, by rw [List.length_drop]; omega⟩
 clear hS
 by_cases hck : c = k
 ·subst hck
  rw [if_pos rfl, Nat.sub_self, show bs.length - c = 0 by omega] at fin
  have Fin := VL fin
  clear fin
  go_enter Try.func60, Try.ntmps60
  go_wp2_with (go_at_call 29; refine Hbad.out.mono ?_; rintro e w' ⟨rfl, rfl⟩)
  go_ret
  exact Fin.out
 rw [if_neg hck] at fin
 have Fin := VL fin
 clear fin
 go_enter Try.func60, Try.ntmps60
 go_wp2_with (go_at_call 29; refine Hbad.out.mono ?_; rintro e w' ⟨rfl, rfl⟩)
 go_ret
 exact Fin.out
def NumQ (I : Zh) (M : List Zt) (k : IntKind) (p : Nat) (n : Int) (r : RS) (v : Value) (J : Zh) (M' : List Zt) : Prop :=
 I = J /\ v = .int k (YP (Zl n r).1) /\ ∃ b', Rdr I p (Zl n r).2 b' /\ M' = b' :: M
set_option maxHeartbeats 400000 in
theorem rd_number (p : Nat) (n : Int) (r : RS) (b : Zt) (ZX : St I (b :: M) w) (h : Rdr I p r b) (hn : n <= 4) :
  Calls Try.prog 59 #[.pointer (some ⟨p, 0, none⟩), .int .i64 n] w (YR I (NumQ I M .u32 p n r)) := by
 go_enter Try.func59, Try.ntmps59
 go_wp2_with fail
 refine (rd_cut p n r b ZX h (by omega)).mono ?_
 rintro e w1 ⟨_, J, M1, rfl, Z5, hst1, rfl, A1, c1, b', rfl, hB, _, hR, rfl⟩
 have hl4 := cutS_len n r 4 (by omega)
 have HN := VL (show YR I (NumQ I M .u32 p n r) (.returned (.int .u32 (YP (Zl n r).1))) w1 from YR.mk (.refl I) hst1 ⟨rfl, rfl, b', hR, rfl⟩)
 have HB := VL hB
 have H1 := VL hst1
 clear hR hB hst1 ZX h Z5
 generalize (Zl n r).1 = l at *
 go_wp2
 go_loop [12, 5] (fun i x => ∃ k : Nat, k <= l.length /\ i = .int .i64 k /\ x = .int .u32 (YP (l.take k))) (fun i _ => l.length - (intOf i).toNat)
 case atStart => exact ⟨0, Nat.zero_le _, rfl, rfl⟩
 case round =>
  obtain ⟨k, hk, rfl, rfl⟩ := hrel
  by_cases Z0 : k < l.length
  ·obtain ⟨g, o, rfl, ZK⟩ := HB.out.at (by omega)
   have hz := ZK _ _ H1.out k Z0
   clear ZK
   have hq := numL_lt (l.take k)
   have hs : YP (l.take (k + 1)) = YP (l.take k) * 256 + l[k].toNat := by rw [List.take_succ_eq_append_getElem Z0, numL_snoc]
   have Hs := VL hs
   clear hs
   have hq2 : YP (l.take k) < 16777216 := by
    have h1 : (l.take k).length <= 3 := by rw [List.length_take]; omega
    have h2 : 256 ^ (l.take k).length <= 256 ^ 3 := Nat.pow_le_pow_right (by omega) h1
    omega
   clear hq
   generalize YP (l.take k) = q at *
   go_wp2
   go_round
   case rel => exact ⟨k + 1, by omega, by go_num, by rw [or_u32 q _ l[k].toNat_lt hq2, Hs.out]⟩
   case measure => simp [intOf]; omega
  go_wp2
  go_ret
  rw [List.take_of_length_le (by omega)]
  exact HN.out
set_option maxHeartbeats 400000 in
theorem rd_u16 (p : Nat) (r : RS) (b : Zt) (ZX : St I (b :: M) w) (h : Rdr I p r b) :
  Calls Try.prog 28 #[.pointer (some ⟨p, 0, none⟩)] w (YR I (NumQ I M .u16 p 2 r)) := by
 go_enter Try.func28, Try.ntmps28
 go_wp2_with fail
 refine (rd_number p 2 r b ZX h (by omega)).mono ?_
 rintro e w1 ⟨_, J, M1, rfl, Z5, hst1, rfl, rfl, b', hR, rfl⟩
 have h1 := numL_lt (Zl 2 r).1
 have h2 : 256 ^ (Zl 2 r).1.length <= 256 ^ 2 := Nat.pow_le_pow_right (by omega) (cutS_len 2 r 2 (by omega))
 have h3 : (YP (Zl 2 r).1 : Int) <= 65535 := by omega
 have HN := VL (show YR I (NumQ I M .u16 p 2 r) (.returned (.int .u16 (YP (Zl 2 r).1))) w1 from YR.mk (.refl I) hst1 ⟨rfl, rfl, b', hR, rfl⟩)
 clear hR h1 h2 hst1 ZX h Z5
 go_wp2
 go_ret
 exact HN.out
set_option maxHeartbeats 400000 in
theorem rd_u8 (p : Nat) (r : RS) (b : Zt) (ZX : St I (b :: M) w) (h : Rdr I p r b) :
  Calls Try.prog 26 #[.pointer (some ⟨p, 0, none⟩)] w (YR I (NumQ I M .u8 p 1 r)) := by
 go_enter Try.func26, Try.ntmps26
 go_wp2_with fail
 refine (rd_number p 1 r b ZX h (by omega)).mono ?_
 rintro e w1 ⟨_, J, M1, rfl, Z5, hst1, rfl, rfl, b', hR, rfl⟩
 have h1 := numL_lt (Zl 1 r).1
 have h2 : 256 ^ (Zl 1 r).1.length <= 256 ^ 1 := Nat.pow_le_pow_right (by omega) (cutS_len 1 r 1 (by omega))
 have h3 : (YP (Zl 1 r).1 : Int) <= 255 := by omega
 have HN := VL (show YR I (NumQ I M .u8 p 1 r) (.returned (.int .u8 (YP (Zl 1 r).1))) w1 from YR.mk (.refl I) hst1 ⟨rfl, rfl, b', hR, rfl⟩)
 clear hR h1 h2 hst1 ZX h Z5
 go_wp2
 go_ret
 exact HN.out
set_option maxHeartbeats 400000 in
theorem Y1 (p : Nat) (r : RS) (b : Zt) (ZX : St I (b :: M) w) (h : Rdr I p r b) :
  Calls Try.prog 62 #[.pointer (some ⟨p, 0, none⟩)] w (YR I (NumQ I M .u32 p 4 r)) := by
 go_enter Try.func62, Try.ntmps62
 go_wp2_with fail
 refine (rd_number p 4 r b ZX h (by omega)).mono ?_
 rintro e w1 ⟨_, J, M1, rfl, Z5, hst1, rfl, rfl, b', hR, rfl⟩
 have HN := VL (show YR I (NumQ I M .u32 p 4 r) (.returned (.int .u32 (YP (Zl 4 r).1))) w1 from YR.mk (.refl I) hst1 ⟨rfl, rfl, b', hR, rfl⟩)
 clear hR hst1 ZX h Z5
 go_wp2
 go_ret
 exact HN.out
def TakeQ (I : Zh) (M : List Zt) (p : Nat) (n : Int) (r : RS) (v : Value) (J : Zh) (M' : List Zt) : Prop :=
 I = J /\ ∃ A c b', v = .slice A (Zl n r).1.length c /\ (Zl n r).1.length <= c /\ Rdr I p (Zl n r).2 b' /\ M' = row 5 1 v (Zl n r).1.length (Z6 (Zl n r).1) :: b' :: M
set_option maxHeartbeats 400000 in
theorem rd_take (p : Nat) (n : Int) (r : RS) (b : Zt) (ZX : St I (b :: M) w) (h : Rdr I p r b) (hn : n <= 9223372036854775807) (hl : r.1.length <= 140737488351232) :
  Calls Try.prog 27 #[.pointer (some ⟨p, 0, none⟩), .int .i64 n] w (YR I (TakeQ I M p n r)) := by
 go_enter Try.func27, Try.ntmps27
 go_wp2_with fail
 refine (rd_cut p n r b ZX h hn).mono ?_
 rintro e w1 ⟨_, J, M1, rfl, Z5, hst1, rfl, A1, c1, b', rfl, hB, _, hR, rfl⟩
 have Z5 := cutS_le n r
 go_wp2_with fail
 refine (clone _ _ _ hst1 hB (by omega)).mono ?_
 rintro e w2 ⟨_, J, M2, rfl, Zd, hst2, rfl, A2, c2, rfl, hc2, rfl⟩
 have HN := VL (show YR I (TakeQ I M p n r) (.returned (.slice A2 (Zl n r).1.length c2)) w2 from YR.mk (.refl I) hst2 ⟨rfl, A2, c2, b', rfl, hc2, hR, rfl⟩)
 clear hst2 hst1 hB hR ZX h
 go_wp2
 go_ret
 exact HN.out
def NewRdr (_ : Zh) (M : List Zt) (bs : List UInt8) (v : Value) (J : Zh) (M' : List Zt) : Prop := ∃ p b, v = .pointer (some ⟨p, 0, none⟩) /\ Rdr J p (bs, false) b /\ M' = b :: M
set_option maxHeartbeats 400000 in
theorem rd_new_src (A : Option Addr) (c : Nat) (bs : List UInt8) (ZX : St I M w) (hs : ∀ w', St I M w' -> Src Try.prog 1 24 (.slice A bs.length c) bs.length (Z6 bs) w') (hn : A = none -> bs = []) (hl : bs.length <= 140737488351232) :
  Calls Try.prog 24 #[.slice A bs.length c] w (YR I (NewRdr I M bs)) := by
 go_enter Try.func24, Try.ntmps24
 go_wp2_with fail
 refine (clone_src _ _ _ ZX hs hn hl).mono ?_
 rintro e w2 ⟨_, J, M2, rfl, Zd, hst2, rfl, A2, c2, rfl, hc2, rfl⟩
 obtain ⟨J2, YL, hst3, hB⟩ := hst2.ZR
 have HN := VL (show YR I (NewRdr I M bs) (.returned (.pointer (some ⟨w2.heap.size, 0, none⟩))) (w2.alloc (.cells #[.slice A2 bs.length c2, .bool false] 109)) from YR.mk YL (hst3.alloc _ _) ⟨_, _, rfl, ⟨A2, c2, rfl, hB, hc2⟩, rfl⟩)
 clear hst2 hst3 hB ZX hs
 go_wp2
 go_ret
 exact HN.out
theorem rd_new (A : Option Addr) (c : Nat) (bs : List UInt8) (ZX : St I M w) (hb : Zq I A bs) (hl : bs.length <= 140737488351232) :
  Calls Try.prog 24 #[.slice A bs.length c] w (YR I (NewRdr I M bs)) :=
 rd_new_src A c bs ZX (fun _ h => hb.src h Try.underlying24 c) (fun h => by
  subst h
  rcases bs with _ | ⟨b, r⟩
  ·rfl
  obtain ⟨_, _, e, _⟩ := hb (by simp [Z6]); cases e) hl
end
def u8 (r : RS) : UInt8 := (Zl 1 r).1.headD 0
section
variable {I : Zh} {M : List Zt} {w : World}
def Wrote (M : List Zt) (p WT : Nat) (l : List UInt8) (v' : Value) (M' : List Zt) : Prop := v' = .tuple #[] /\ ∃ v2, M' = row 5 1 v2 l.length (Z6 l) :: bk p WT #[v2] :: M
def Zi (x : Int) : List UInt8 := [byteOf (x / 256), byteOf (x % 256)]
def ZM (x : Int) : List UInt8 := [byteOf (x / 16777216), byteOf (x / 65536 % 256), byteOf (x / 256 % 256), byteOf (x % 256)]
set_option maxHeartbeats 1000000 in
theorem wU8 (p WT : Nat) (v : Value) (l : List UInt8) (x : Int) (ZX : St I (row 5 1 v l.length (Z6 l) :: bk p WT #[v] :: M) w) (hl : l.length <= 140737488351232) (hx : 0 <= x /\ x < 256) :
  Calls Try.prog 49 #[.pointer (some ⟨p, 0, none⟩), .int .u8 x] w (YR I (fun v' J M' => I = J /\ Wrote M p WT (l ++ [byteOf x]) v' M')) := by
 obtain ⟨i0, hi, hz0, hz1, hz2⟩ := info_parts infoU8
 obtain ⟨hc, hf, Z0⟩ := (show ZO w p WT #[v] from ZX.at 1 rfl).one
 obtain ⟨A, c, rfl⟩ := ZW (show w.ownsRow 0 5 1 v l.length (Z6 l) from ZX.head)
 have Hs := VL (ZX.litSrc (P := Try.prog) (t := 60) (e := 5) (cs := #[.int .u8 x]) [byteOf x] (by simp [Z6, Yz hx.1 hx.2]) Try.underlying60)
 have H := VL (ZX.grow (.cells #[.int .u8 x] 5))
 clear ZX
 go_enter Try.func49, Try.ntmps49
 go_wp2_with (at_builtin; refine Zj _ rfl _ _ 60 60 rfl 0 5 i0 (.int .u8 0) 1 1 Try.underlying60 hi hz0 hz1 hz2 rfl _ l.length (Z6 l) rfl H.out.head _ _ _ rfl Hs.out (by unfold maxLen; simp [Zi, ZM]; omega) (by simp [Zi, ZM]; omega) (Nat.zero_le _) ?_)
 intro v' w3 hown Zr hat
 have Zb : w3.ownsRow 0 5 1 v' (l ++ [byteOf x]).length (Z6 (l ++ [byteOf x])) := by simpa [WG] using hown
 have Zf := H.out.grown Zr Zb (by simpa using hat)
 obtain ⟨A', c', rfl⟩ := ZW Zb
 obtain ⟨n2, hn2⟩ : ∃ n2, n2 = (l ++ [byteOf x]).length := ⟨_, rfl⟩
 rw [<- hn2] at Zf ⊢
 obtain ⟨hc3, hf3, hlt3⟩ := (show ZO w3 p WT _ from Zf.at 1 rfl).one
 have HS : Hid (St I (row 5 1 (.slice A' n2 c') n2 (Z6 (l ++ [byteOf x])) :: bk p WT #[.slice A' n2 c'] :: M) (w3.setCell ⟨p, 0, none⟩ (.slice A' n2 c'))) := VL ((Zf.ZQ.set 0 (.slice A' n2 c')).ZQ)
 have HN := VL hn2
 clear hn2
 clear hown Zb Zr hat Zf hc hf Z0 H Hs
 go_wp2
 go_returns
 exact YR.mk (.refl I) HS.out ⟨rfl, rfl, .slice A' n2 c', by rw [HN.out]⟩
set_option maxHeartbeats 1000000 in
theorem Ws (p WT : Nat) (v : Value) (l : List UInt8) (x : Int) (ZX : St I (row 5 1 v l.length (Z6 l) :: bk p WT #[v] :: M) w) (hl : l.length <= 140737488351232) (hx : 0 <= x /\ x <= 65535) :
  Calls Try.prog 52 #[.pointer (some ⟨p, 0, none⟩), .int .u16 x] w (YR I (fun v' J M' => I = J /\ Wrote M p WT (l ++ (Zi x)) v' M')) := by
 obtain ⟨i0, hi, hz0, hz1, hz2⟩ := info_parts infoU8
 obtain ⟨hc, hf, Z0⟩ := (show ZO w p WT #[v] from ZX.at 1 rfl).one
 obtain ⟨A, c, rfl⟩ := ZW (show w.ownsRow 0 5 1 v l.length (Z6 l) from ZX.head)
 have Hs := VL (ZX.litSrc (P := Try.prog) (t := 60) (e := 5) (cs := #[.int .u8 (x / 256), .int .u8 (x % 256)]) (Zi x) (by simp only [Zi, Z6, List.map_cons, List.map_nil]; rw [Yz (by omega) (by omega), Yz (by omega) (by omega)]) Try.underlying60)
 have H := VL (ZX.grow (.cells #[.int .u8 (x / 256), .int .u8 (x % 256)] 5))
 clear ZX
 go_enter Try.func52, Try.ntmps52
 go_wp2_with (at_builtin; refine Zj _ rfl _ _ 60 60 rfl 0 5 i0 (.int .u8 0) 1 1 Try.underlying60 hi hz0 hz1 hz2 rfl _ l.length (Z6 l) rfl H.out.head _ _ _ rfl Hs.out (by unfold maxLen; simp [Zi, ZM]; omega) (by simp [Zi, ZM]; omega) (Nat.zero_le _) ?_)
 intro v' w3 hown Zr hat
 have Zb : w3.ownsRow 0 5 1 v' (l ++ (Zi x)).length (Z6 (l ++ (Zi x))) := by simpa [WG] using hown
 have Zf := H.out.grown Zr Zb (by simpa using hat)
 obtain ⟨A', c', rfl⟩ := ZW Zb
 obtain ⟨n2, hn2⟩ : ∃ n2, n2 = (l ++ (Zi x)).length := ⟨_, rfl⟩
 rw [<- hn2] at Zf ⊢
 obtain ⟨hc3, hf3, hlt3⟩ := (show ZO w3 p WT _ from Zf.at 1 rfl).one
 have HS : Hid (St I (row 5 1 (.slice A' n2 c') n2 (Z6 (l ++ (Zi x))) :: bk p WT #[.slice A' n2 c'] :: M) (w3.setCell ⟨p, 0, none⟩ (.slice A' n2 c'))) := VL ((Zf.ZQ.set 0 (.slice A' n2 c')).ZQ)
 have HN := VL hn2
 clear hn2
 clear hown Zb Zr hat Zf hc hf Z0 H Hs
 go_wp2
 go_returns
 exact YR.mk (.refl I) HS.out ⟨rfl, rfl, .slice A' n2 c', by rw [HN.out]⟩
set_option maxHeartbeats 1000000 in
theorem Xk (p WT : Nat) (v : Value) (l : List UInt8) (x : Int) (ZX : St I (row 5 1 v l.length (Z6 l) :: bk p WT #[v] :: M) w) (hl : l.length <= 140737488351232) (hx : 0 <= x /\ x <= 4294967295) :
  Calls Try.prog 48 #[.pointer (some ⟨p, 0, none⟩), .int .u32 x] w (YR I (fun v' J M' => I = J /\ Wrote M p WT (l ++ (ZM x)) v' M')) := by
 obtain ⟨i0, hi, hz0, hz1, hz2⟩ := info_parts infoU8
 obtain ⟨hc, hf, Z0⟩ := (show ZO w p WT #[v] from ZX.at 1 rfl).one
 obtain ⟨A, c, rfl⟩ := ZW (show w.ownsRow 0 5 1 v l.length (Z6 l) from ZX.head)
 have Hs := VL (ZX.litSrc (P := Try.prog) (t := 60) (e := 5) (cs := #[.int .u8 (x / 16777216), .int .u8 (x / 65536 % 256), .int .u8 (x / 256 % 256), .int .u8 (x % 256)]) (ZM x) (by simp only [ZM, Z6, List.map_cons, List.map_nil]; rw [Yz (by omega) (by omega), Yz (by omega) (by omega), Yz (by omega) (by omega), Yz (by omega) (by omega)]) Try.underlying60)
 have H := VL (ZX.grow (.cells #[.int .u8 (x / 16777216), .int .u8 (x / 65536 % 256), .int .u8 (x / 256 % 256), .int .u8 (x % 256)] 5))
 clear ZX
 go_enter Try.func48, Try.ntmps48
 go_wp2_with (at_builtin; refine Zj _ rfl _ _ 60 60 rfl 0 5 i0 (.int .u8 0) 1 1 Try.underlying60 hi hz0 hz1 hz2 rfl _ l.length (Z6 l) rfl H.out.head _ _ _ rfl Hs.out (by unfold maxLen; simp [Zi, ZM]; omega) (by simp [Zi, ZM]; omega) (Nat.zero_le _) ?_)
 intro v' w3 hown Zr hat
 have Zb : w3.ownsRow 0 5 1 v' (l ++ (ZM x)).length (Z6 (l ++ (ZM x))) := by simpa [WG] using hown
 have Zf := H.out.grown Zr Zb (by simpa using hat)
 obtain ⟨A', c', rfl⟩ := ZW Zb
 obtain ⟨n2, hn2⟩ : ∃ n2, n2 = (l ++ (ZM x)).length := ⟨_, rfl⟩
 rw [<- hn2] at Zf ⊢
 obtain ⟨hc3, hf3, hlt3⟩ := (show ZO w3 p WT _ from Zf.at 1 rfl).one
 have HS : Hid (St I (row 5 1 (.slice A' n2 c') n2 (Z6 (l ++ (ZM x))) :: bk p WT #[.slice A' n2 c'] :: M) (w3.setCell ⟨p, 0, none⟩ (.slice A' n2 c'))) := VL ((Zf.ZQ.set 0 (.slice A' n2 c')).ZQ)
 have HN := VL hn2
 clear hn2
 clear hown Zb Zr hat Zf hc hf Z0 H Hs
 go_wp2
 go_returns
 exact YR.mk (.refl I) HS.out ⟨rfl, rfl, .slice A' n2 c', by rw [HN.out]⟩
set_option maxHeartbeats 1000000 in
theorem Wt (p WT : Nat) (v : Value) (l : List UInt8) (B : Option Addr) (cb : Nat) (bs : List UInt8) (ZX : St I (row 5 1 v l.length (Z6 l) :: bk p WT #[v] :: M) w) (hl : l.length + bs.length <= 140737488351232) (hb : ∀ w2 N, St I N w2 -> Src Try.prog 1 24 (.slice B bs.length cb) bs.length (Z6 bs) w2) :
  Calls Try.prog 50 #[.pointer (some ⟨p, 0, none⟩), .slice B bs.length cb] w (YR I (fun v' J M' => I = J /\ Wrote M p WT (l ++ bs) v' M')) := by
 obtain ⟨i0, hi, hz0, hz1, hz2⟩ := info_parts infoU8
 obtain ⟨hc, hf, Z0⟩ := (show ZO w p WT #[v] from ZX.at 1 rfl).one
 obtain ⟨A, c, rfl⟩ := ZW (show w.ownsRow 0 5 1 v l.length (Z6 l) from ZX.head)
 have Hs := VL (hb w _ ZX)
 have H := VL (ZX)
 clear ZX
 go_enter Try.func50, Try.ntmps50
 go_wp2_with (at_builtin; refine Zj _ rfl _ _ 60 24 rfl 0 5 i0 (.int .u8 0) 1 1 Try.underlying60 hi hz0 hz1 hz2 rfl _ l.length (Z6 l) rfl H.out.head _ _ _ rfl Hs.out (by unfold maxLen; simp [Zi, ZM]; omega) (by simp [Zi, ZM]; omega) (Nat.zero_le _) ?_)
 intro v' w3 hown Zr hat
 have Zb : w3.ownsRow 0 5 1 v' (l ++ bs).length (Z6 (l ++ bs)) := by simpa [WG] using hown
 have Zf := H.out.grown Zr Zb (by simpa using hat)
 obtain ⟨A', c', rfl⟩ := ZW Zb
 obtain ⟨n2, hn2⟩ : ∃ n2, n2 = (l ++ bs).length := ⟨_, rfl⟩
 rw [<- hn2] at Zf ⊢
 obtain ⟨hc3, hf3, hlt3⟩ := (show ZO w3 p WT _ from Zf.at 1 rfl).one
 have HS : Hid (St I (row 5 1 (.slice A' n2 c') n2 (Z6 (l ++ bs)) :: bk p WT #[.slice A' n2 c'] :: M) (w3.setCell ⟨p, 0, none⟩ (.slice A' n2 c'))) := VL ((Zf.ZQ.set 0 (.slice A' n2 c')).ZQ)
 have HN := VL hn2
 clear hn2
 clear hown Zb Zr hat Zf hc hf Z0 H Hs
 go_wp2
 go_returns
 exact YR.mk (.refl I) HS.out ⟨rfl, rfl, .slice A' n2 c', by rw [HN.out]⟩
end
def lenAt (w : World) (p : Nat) : Nat := match w.cell? ⟨p, 0, none⟩ with
 | some (.slice _ n _) => n
 | _ => 0
def YH (l : List UInt8) : List UInt8 := l ++ List.replicate ((4 - l.length % 4) % 4) 0
theorem evenL_len (l : List UInt8) : (YH l).length % 4 = 0 := by
 unfold YH
 rw [List.length_append, List.length_replicate]
 omega
theorem Xr (l : List UInt8) : (YH l).length <= l.length + 3 := by
 unfold YH
 rw [List.length_append, List.length_replicate]
 omega
theorem X9 (k : Nat) : List.replicate (k + 1) (0 : UInt8) = List.replicate k 0 ++ [0] := by
 rw [List.replicate_succ']
set_option maxHeartbeats 2000000 in
theorem evenC (I : Zh) (M : List Zt) (w : World) (p WT : Nat) (v : Value) (l : List UInt8) (ZX : St I (row 5 1 v l.length (Z6 l) :: bk p WT #[v] :: M) w) (hl : l.length <= 140737488351000) :
  Calls Try.prog 55 #[.pointer (some ⟨p, 0, none⟩)] w (YR I (fun v' J M' => I = J /\ Wrote M p WT (YH l) v' M')) := by
 have H0 := VL ZX
 clear ZX
 go_enter Try.func55, Try.ntmps55
 go_wp2_with fail
 go_loopw [] (fun wr => Hid (∃ k v, k <= (4 - l.length % 4) % 4 /\ St I (row 5 1 v (l ++ List.replicate k 0).length (Z6 (l ++ List.replicate k 0)) :: bk p WT #[v] :: M) wr)) (fun wr => (4 - lenAt wr p % 4) % 4)
 case atStart => exact ⟨0, v, Nat.zero_le _, by simpa using H0.out⟩
 case round =>
  obtain ⟨k, v, hk, hs⟩ := hrel.out
  clear hrel H0
  obtain ⟨A, c, rfl⟩ := ZW (show wr.ownsRow 0 5 1 v _ _ from hs.head)
  obtain ⟨n, hln⟩ : ∃ n, n = (l ++ List.replicate k 0).length := ⟨_, rfl⟩
  have hnk : n = l.length + k := by rw [hln]; simp
  rw [<- hln] at hs
  obtain ⟨hc, hf, Z0⟩ := (show ZO wr p WT #[.slice A n c] from hs.at 1 rfl).one
  have hlen : lenAt wr p = n := by unfold lenAt; rw [hc]
  have h1 : (n : Int) <= 140737488351232 := by omega
  have HLN := VL hlen
  clear hlen
  by_cases hlt2 : k < (4 - l.length % 4) % 4
  ·have hq : ((n : Int) % 4 != 0) = true := by rw [bne_iff_ne]; omega
   have HC := VL (wU8 (I := I) p WT (.slice A n c) (l ++ List.replicate k 0) 0 (by rw [<- hln]; exact hs) (by rw [<- hln]; omega) (by decide))
   have HNK := VL hnk
   have HKL := VL hlt2
   clear hs hln hnk hlt2 hk hl
   go_wp2_with fail
   go_at_call 49
   refine HC.out.mono ?_
   rintro e W ⟨_, _, _, rfl, _, hs, rfl, rfl, v2, rfl⟩
   have e1 : l ++ List.replicate k 0 ++ [byteOf 0] = l ++ List.replicate (k + 1) 0 := by rw [X9, List.append_assoc]; rfl
   rw [e1] at hs
   have HS := VL hs
   have HM : Hid (lenAt W p = n + 1) := VL (by
    obtain ⟨A2, c2, rfl⟩ := ZW (show W.ownsRow 0 5 1 v2 _ _ from hs.head)
    obtain ⟨hc2, _, _⟩ := (show ZO W p WT #[_] from hs.at 1 rfl).one
    unfold lenAt
    rw [hc2]
    show (l ++ List.replicate (k + 1) 0).length = n + 1
    rw [HNK.out]; simp; omega)
   clear hs e1 HC
   go_wp2
   go_roundw
   case rel => exact ⟨k + 1, v2, by have := HKL.out; omega, HS.out⟩
   case measure =>
    rw [HM.out, HLN.out]
    have h1 := HNK.out
    have h2 := HKL.out
    omega
  have hq : ((n : Int) % 4 != 0) = false := by rw [bne_eq_false_iff_eq]; omega
  have hkk : k = (4 - l.length % 4) % 4 := by omega
  rw [hln] at hs
  have HS := VL (show St I (row 5 1 (.slice A (YH l).length c) (YH l).length (Z6 (YH l)) :: bk p WT #[.slice A (YH l).length c] :: M) wr from by rw [hkk] at hs; exact hs)
  clear hs hln hnk hkk hlt2 hk
  go_wp2
  go_returns
  exact YR.mk (.refl I) HS.out ⟨rfl, rfl, _, rfl⟩
structure RpOk (x : Rp) : Prop where
 src : 0 <= x.src /\ x.src < 4294967296
 lost : 0 <= x.lost /\ x.lost < 256
 total : 0 <= x.total /\ x.total < 16777216
 high : 0 <= x.high /\ x.high < 4294967296
 Xw : 0 <= x.Xw /\ x.Xw < 4294967296
 last : 0 <= x.last /\ x.last < 4294967296
 delay : 0 <= x.delay /\ x.delay < 4294967296
def repN (x : Rp) : List Int := [x.src, x.lost * 16777216 + x.total, x.high, x.Xw, x.last, x.delay]
def XG (l : List Int) : List UInt8 := l.flatMap ZM
def YK (x : Rp) : List UInt8 := XG (repN x)
theorem repN_ok {x : Rp} (h : RpOk x) : ∀ n ∈ repN x, 0 <= n /\ n < 4294967296 := by
 intro n hn
 have h1 := h.src; have h2 := h.lost; have h3 := h.total; have h4 := h.high; have h5 := h.Xw; have h6 := h.last; have h7 := h.delay
 simp only [repN, List.mem_cons, List.mem_nil_iff, or_false] at hn
 rcases hn with rfl | rfl | rfl | rfl | rfl | rfl <;> omega
theorem WV (l : List Int) : (XG l).length = 4 * l.length := by
 induction l with
 | nil => rfl
 | cons x r ih =>
  show (ZM x ++ XG r).length = _
  rw [List.length_append, ih, List.length_cons]
  show 4 + 4 * r.length = _
  omega
theorem u32Bs_snoc (l : List Int) (x : Int) : XG (l ++ [x]) = XG l ++ ZM x := by simp [XG]
theorem or_low (a b s : Nat) (hb : b < 2 ^ s) (hs : 2 ^ s <= 4294967296) (ha : a * 2 ^ s < 4294967296) : bits BinOp.or IntKind.u32 ((a * 2 ^ s : Nat) : Int) (b : Int) = ((a * 2 ^ s + b : Nat) : Int) := by
 have hor : a * 2 ^ s ||| b = a * 2 ^ s + b := by
  have := Nat.shiftLeft_add_eq_or_of_lt (b := b) (i := s) hb a
  rw [Nat.shiftLeft_eq] at this
  exact this.symm
 have Z0 : a * 2 ^ s ||| b < 2 ^ 32 := Nat.or_lt_two_pow (by simpa using ha) (by omega)
 have e2 : (BitVec.ofInt 32 ((a * 2 ^ s : Nat) : Int)).toNat = a * 2 ^ s := by
  rw [BitVec.ofInt_natCast, BitVec.toNat_ofNat]; exact Nat.mod_eq_of_lt (by omega)
 have e3 : (BitVec.ofInt 32 (b : Int)).toNat = b := by
  rw [BitVec.ofInt_natCast, BitVec.toNat_ofNat]; exact Nat.mod_eq_of_lt (by omega)
 show IntKind.u32.wrap ((BitVec.ofInt 32 ((a * 2 ^ s : Nat) : Int) ||| BitVec.ofInt 32 (b : Int)).toNat : Int) = _
 rw [BitVec.toNat_or, e2, e3, hor]
 rw [hor] at Z0
 simp only [IntKind.wrap, IntKind.signed, IntKind.bits]
 show ((a * 2 ^ s + b : Nat) : Int) % 4294967296 = _
 omega
theorem or_rep {a b : Int} (ha : 0 <= a /\ a < 256) (hb : 0 <= b /\ b < 16777216) : bits BinOp.or IntKind.u32 (a * 16777216) b = a * 16777216 + b := by
 obtain ⟨m, rfl⟩ := Int.eq_ofNat_of_zero_le ha.1
 obtain ⟨n, rfl⟩ := Int.eq_ofNat_of_zero_le hb.1
 have h := or_low m n 24 (by simp; omega) (by simp) (by simp; omega)
 have e : (m : Int) * 16777216 = ((m * 2 ^ 24 : Nat) : Int) := by simp
 rw [e, h]
 omega
theorem idx6 (a b c d e f : Int) (k : Nat) (hk : k < [a, b, c, d, e, f].length) (w : World) : (Instr.index 122 (.agg #[.int .u32 a, .int .u32 b, .int .u32 c, .int .u32 d, .int .u32 e, .int .u32 f]) (.int .i64 k)).run Try.prog w = .ok (.int .u32 ([a, b, c, d, e, f][k])) w := by
 have h : k = 0 \/ k = 1 \/ k = 2 \/ k = 3 \/ k = 4 \/ k = 5 := by simp only [List.length_cons, List.length_nil] at hk; omega
 rcases h with rfl | rfl | rfl | rfl | rfl | rfl
 ·have h := (by kernel_rfl : (Instr.index 122 (.agg #[.int .u32 a, .int .u32 b, .int .u32 c, .int .u32 d, .int .u32 e, .int .u32 f]) (.int .i64 0)).run Try.prog w = .ok (.int .u32 a) w)
  simpa using h
 ·have h := (by kernel_rfl : (Instr.index 122 (.agg #[.int .u32 a, .int .u32 b, .int .u32 c, .int .u32 d, .int .u32 e, .int .u32 f]) (.int .i64 1)).run Try.prog w = .ok (.int .u32 b) w)
  simpa using h
 ·have h := (by kernel_rfl : (Instr.index 122 (.agg #[.int .u32 a, .int .u32 b, .int .u32 c, .int .u32 d, .int .u32 e, .int .u32 f]) (.int .i64 2)).run Try.prog w = .ok (.int .u32 c) w)
  simpa using h
 ·have h := (by kernel_rfl : (Instr.index 122 (.agg #[.int .u32 a, .int .u32 b, .int .u32 c, .int .u32 d, .int .u32 e, .int .u32 f]) (.int .i64 3)).run Try.prog w = .ok (.int .u32 d) w)
  simpa using h
 ·have h := (by kernel_rfl : (Instr.index 122 (.agg #[.int .u32 a, .int .u32 b, .int .u32 c, .int .u32 d, .int .u32 e, .int .u32 f]) (.int .i64 4)).run Try.prog w = .ok (.int .u32 e) w)
  simpa using h
 have h := (by kernel_rfl : (Instr.index 122 (.agg #[.int .u32 a, .int .u32 b, .int .u32 c, .int .u32 d, .int .u32 e, .int .u32 f]) (.int .i64 5)).run Try.prog w = .ok (.int .u32 f) w)
 simpa using h
set_option maxRecDepth 8000 in
set_option maxHeartbeats 4000000 in
theorem repW (I : Zh) (M : List Zt) (w : World) (p WT : Nat) (v : Value) (l : List UInt8) (x : Rp) (hx : RpOk x) (ZX : St I (row 5 1 v l.length (Z6 l) :: bk p WT #[v] :: M) w) (hl : l.length <= 140737488351000) :
  Calls Try.prog 54 #[.agg #[.int .u32 x.src, .int .u8 x.lost, .int .u32 x.total, .int .u32 x.high, .int .u32 x.Xw, .int .u32 x.last, .int .u32 x.delay], .pointer (some ⟨p, 0, none⟩)] w (YR I (fun v' J M' => I = J /\ Wrote M p WT (l ++ YK x) v' M')) := by
 have ZY := ZX.grow (.cells #[.int .u32 x.src, .int .u8 x.lost, .int .u32 x.total, .int .u32 x.high, .int .u32 x.Xw, .int .u32 x.last, .int .u32 x.delay] 65)
 have H1 := VL ZY
 have HN := VL (repN_ok hx)
 have hor := or_rep hx.lost hx.total
 obtain ⟨h1, h2⟩ := hx.lost
 obtain ⟨h3, h4⟩ := hx.total
 have HL := VL (show repN x = [x.src, x.lost * 16777216 + x.total, x.high, x.Xw, x.last, x.delay] from rfl)
 clear ZX ZY hx
 go_enter Try.func54, Try.ntmps54
 go_wp2_with fail
 generalize World.alloc w _ = W at H1 ⊢
 generalize w.heap.size = q
 go_loopw [24] (fun iv wr => ∃ k : Nat, k <= 6 /\ iv = .int .i64 k /\ Hid (∃ v, St I (row 5 1 v (l ++ XG ((repN x).take k)).length (Z6 (l ++ XG ((repN x).take k))) :: bk p WT #[v] :: M) wr)) (fun iv _ => 6 - (intOf iv).toNat)
 case atStart => exact ⟨0, by omega, rfl, v, by simpa [XG] using H1.out⟩
 case round =>
  obtain ⟨k, hk, rfl, hh⟩ := hrel
  obtain ⟨v, hs⟩ := hh.out
  have HS := VL hs
  clear hs hh H1
  by_cases Z0 : k < 6
  ·have hlr : k < (repN x).length := Z0
   have hix := idx6 x.src (x.lost * 16777216 + x.total) x.high x.Xw x.last x.delay k Z0
   have hmem := HN.out _ (List.getElem_mem hlr)
   have htk : (repN x).take (k + 1) = (repN x).take k ++ [(repN x)[k]'hlr] := List.take_succ_eq_append_getElem hlr
   obtain ⟨y, hy⟩ : ∃ y, y = (repN x)[k]'hlr := ⟨_, rfl⟩
   have hy2 : [x.src, x.lost * 16777216 + x.total, x.high, x.Xw, x.last, x.delay][k]'Z0 = y := hy.symm
   rw [<- hy] at hmem htk
   simp only [hy2] at hix
   have HTK := VL htk
   obtain ⟨hy3, hy4⟩ := hmem
   have hln : ((repN x).take k).length <= 6 := by rw [List.length_take]; exact Nat.le_trans (Nat.min_le_left _ _) hk
   have HC := VL (Xk (I := I) p WT v _ y HS.out (by rw [List.length_append, WV]; omega) ⟨hy3, by omega⟩)
   clear htk hy hy2
   go_wp2_with fail
   go_at_call 48
   refine HC.out.mono ?_
   rintro e W2 ⟨_, _, _, rfl, _, hs, rfl, rfl, v2, rfl⟩
   rw [List.append_assoc, <- u32Bs_snoc, <- HTK.out] at hs
   have HS2 := VL hs
   clear hs HS HC
   go_wp2
   go_roundw
   case rel => exact ⟨k + 1, by omega, by go_num, v2, HS2.out⟩
   case measure => simp [intOf]; omega
  have hk6 : k = 6 := by omega
  subst hk6
  have HS2 := VL (show St I (row 5 1 v (l ++ YK x).length (Z6 (l ++ YK x)) :: bk p WT #[v] :: M) wr from HS.out)
  clear HS
  go_wp2
  go_returns
  exact YR.mk (.refl I) HS2.out ⟨rfl, rfl, _, rfl⟩
def obk (g : Nat) (o : Obj) : Zt where
 blk := some g
 ok w := w.heap[g]? = some o
 loc _ _ h hb := (hb g rfl).trans h
 lt w h b hb := by injection hb with hb; subst hb; exact (Array.getElem?_eq_some_iff.1 h).1
section
variable {I : Zh} {M : List Zt} {w : World} {g : Nat} {o o' : Obj} {a b c d : Zt}
theorem St.putOb (h : St I (obk g o :: M) w) (o' : Obj) : St I (obk g o' :: M) (w.putObj g o') :=
 h.turn rfl rfl rfl (fun _ _ hne => World.putObj_heap_other (fun e => hne (by rw [e]; rfl))) (World.putObj_heap_same (Array.getElem?_eq_some_iff.1 h.head).1) (fun _ hb => .inl hb)
theorem St.allocOb (h : St I M w) (o : Obj) : St I (obk w.heap.size o :: M) (w.alloc o) :=
 St.more (w := w) (h.grow _) (heap_alloc_new w _) (fun b hb => by injection hb with hb; subst hb; simp) h
theorem St.enterLoop (h : St I M w) (o : Obj) : St I (obk (w.heap.size + 1) o :: obk w.heap.size (.deferred (some [])) :: M) ((w.alloc (.deferred (some []))).alloc o) := by
 have h2 := (h.allocOb (.deferred (some []))).allocOb o
 rw [World.size_alloc] at h2
 exact h2
end
section
variable {P : Program}
theorem range_wp {α σ : Type} (ok : σ -> α -> Prop) (step : σ -> α -> σ) (s0 : σ) {g : Operand} {ps : Array Tmp} {assign body : Code} {Q : Exit -> Act -> World -> Prop} {a : Act} {w : World} {gf : Nat} {lb : Array Value}
  (hg : a.eval g = .func (.func gf) #[] lb) (eg : ∀ args w, (callFunc gf args).run P w = .ok (.enter gf args) w) {encs : α -> Array Value} (hps : ∀ x, (encs x).size = ps.size)
  (X : Obj -> σ -> World -> Prop) (hX : ∀ o pre W, X o pre W -> W.heap[w.heap.size + 1]? = some o) (hput : ∀ o o' pre W, X o pre W -> X o' pre (W.putObj (w.heap.size + 1) o'))
  (h0 : ∀ o, X o s0 ((w.alloc (.deferred (some []))).alloc o))
  (a₁ : α -> Act) (hassign : ∀ (l : Nat) (x : α) (W : World) (K : Act -> World -> Prop), K (a₁ x) W -> assign.wpIn (Fence.wide.inRound l) 0 P (Exit.then K (fun _ _ _ => False)) { tmps := (ps.zip (encs x)).foldl (fun t (p, v) => t.setIfInBounds p v) a.tmps, defers := [] } W)
  (hbody : ∀ (o : Obj) (pre : σ) (x : α) (W : World), X o pre W -> ok pre x -> body.wpIn (Fence.wide.inRound (w.heap.size + 1)) 0 P (fun e _ W' => e = .normal /\ X o (step pre x) W') (a₁ x) W)
  (S : σ -> Prop)
  (hiter : ∀ (o : Obj), (∀ (pre : σ) (x : α) (W : World), X o pre W -> ok pre x -> YieldAt Fence.wide 0 P (w.heap.size + 1) (encs x) W fun e W' => e = .returned (.bool true) /\ X o (step pre x) W') ->
   ∀ W, X o s0 W -> CallsIn Fence.wide 0 P gf (#[.func (.yield (w.heap.size + 1)) #[] #[]] ++ lb) W fun e W' => (∃ v, e = .returned v) /\ ∃ xs, S xs /\ X o xs W')
  (hdone : ∀ (o : Obj) (xs : σ) (W : World), S xs -> X o xs W -> Q .normal { a with defers := { target := .collected w.heap.size, args := #[] } :: a.defers } W) :
  (Code.rangeFunc g ps assign body).wp P Q a w := by
 refine (wpIn_wide (n := 0)).1 (wpIn_rangeFunc ?_)
 intro fn _
 obtain ⟨rec, hrec⟩ : ∃ rec : LoopState -> Loop, rec = fun st => { state := st, pending := none, fn, tmps := a.tmps, params := ps, assign, body, defers := w.heap.size } := ⟨_, rfl⟩
 refine ⟨w.heap.size + 1, [{ target := .collected w.heap.size, args := #[] }], (w.alloc (.deferred (some []))).alloc (.loop (rec .ready)), { target := .fn (.func gf) lb, args := #[.func (.yield (w.heap.size + 1)) #[] #[]] }, (w.alloc (.deferred (some []))).alloc (.loop (rec .ready)), gf,
  #[.func (.yield (w.heap.size + 1)) #[] #[]] ++ lb, (w.alloc (.deferred (some []))).alloc (.loop (rec .ready)), ?_, ?_, ?_, ?_, (fun h => by cases h), ?_⟩
 ·rw [hrec]; exact run_enterLoop_outer _ _ _ _ _
 ·simp only [resolve, hg]
  simp [go_sem]
 ·intro f' hf'; simp [Target.leads] at hf'; subst hf'; trivial
 ·simp [invoke, go_sem, eg]
 refine (hiter (.loop (rec .ready)) ?_ _ (h0 _)).mono ?_
 ·intro pre x W hx hok
  have hl := hX _ _ _ hx
  have hy := run_yield (P := P) (args := encs x) hl (by rw [hrec]; exact hps x)
  rw [hrec] at hy
  refine ⟨fn, _, assign, body, hy, roundIn_of_wpIn trivial (hassign _ x W _ ?_)⟩
  clear hy
  refine ⟨_, run_beginRound hl (by rw [hrec]), ?_⟩
  have hx2 : X (.loop { rec .ready with state := .busy }) pre (W.putObj (w.heap.size + 1) (.loop { rec .ready with state := .busy })) := hput _ _ _ _ hx
  refine wpIn_mono (hbody _ pre x _ hx2 hok) ?_
  rintro e a3 W3 ⟨rfl, hx3⟩
  have hl3 := hX _ _ _ hx3
  have hr := run_endRound (P := P) none hl3
  have e2 : ({ { rec .ready with state := .busy } with state := if (none : Option Code).isNone then .ready else .done, pending := none } : Loop) = rec .ready := by rw [hrec]; rfl
  rw [e2] at hr
  exact ⟨_, _, hr, rfl, hput _ _ _ _ hx3⟩
 rintro e W2 ⟨⟨v, rfl⟩, xs, hS, hx⟩
 have hl := hX _ _ _ hx
 have he := run_endLoop (P := P) hl (by rw [hrec]; simp)
 have e3 : (rec .ready).pending = none := by rw [hrec]
 rw [e3] at he
 exact ⟨none, _, he, hdone _ xs _ hS (hput _ _ _ _ hx)⟩
end
end Go.Proofs.Ytddopbbmgpnjjaa
