/- bytes.Clone and wire.Reader's methods, told of whatever bytes. -/
import Derived.Test.YtddopbbmgpnjjaaSt
namespace Go.Proofs.Ytddopbbmgpnjjaa
open Go.RowKit

theorem infoU8 : (Try.prog.info? 5).map (fun i => (i.zero, i.size, i.bytes)) = some (some (.int .u8 0), 1, 1) := by kernel_rfl
/-- new memory that holds bytes -/
def NewB (I : Img) (M : List Res) (bs : List UInt8) (v : Value) (J : Img) (M' : List Res) : Prop := I = J ∧ ∃ A c, v = .slice A bs.length c ∧ bs.length ≤ c ∧ M' = row 5 1 v bs.length (bvs bs) :: M

section
variable {I : Img} {M : List Res} {w : World}
set_option maxRecDepth 8000 in
set_option maxHeartbeats 400000 in
theorem clone_src (A : Option Addr) (c : Nat) (bs : List UInt8) (hst : St I M w) (hs : ∀ w', St I M w' → Src Try.prog 1 24 (.slice A bs.length c) bs.length (bvs bs) w') (hn : A = none → bs = []) (hl : bs.length ≤ 140737488351232) :
    Calls Try.prog 58 #[.slice A bs.length c] w (Ret I (NewB I M bs)) := by
  obtain ⟨i0, hi, hz0, hz1, hz2⟩ := info_parts infoU8
  have hq := Lib.run_eql_slice_nil (P := Try.prog) w 24 5 A bs.length c 0 0 Try.underlying24
  match A with
  | none =>
    have h0 := hn rfl
    subst h0
    show Calls Try.prog 58 #[.slice none 0 c] w (Ret I (NewB I M []))
    replace hq : (binOp .eql 24 (.slice none 0 c) (.slice none 0 0)).run Try.prog w = .ok (.bool true) w := hq
    have H := Lib.hid hst
    clear hs hl hn hst
    go_enter Try.func58, Try.ntmps58
    go_wp2
    go_ret
    exact Ret.mk (.refl I) H.out.nil ⟨rfl, none, 0, rfl, Nat.le_refl _, rfl⟩
  | some a =>
    have hst1 := (hst.alloc 5 #[]).drop
    have hsrc := hs _ hst1
    have hown := World.ownsRow_lit (base := w.heap.size) (e := 5) (size := 1) w #[] 0 (Nat.le_refl _) (Nat.zero_le _) rfl
    have Hs := Lib.hid hsrc
    have Ho := Lib.hid hown
    have Hst1 := Lib.hid hst1
    have Hst := Lib.hid hst
    clear hsrc hown hst1 hs hn hst
    go_enter Try.func58, Try.ntmps58
    go_wp2_with (at_builtin; refine wpList_append_src _ rfl _ _ 24 24 rfl w.heap.size 5 i0 (.int .u8 0) 1 1 Try.underlying24 hi hz0 hz1 hz2 rfl _ _ _ rfl Ho.out _ _ _ rfl Hs.out (by unfold maxLen; omega) (by omega) (by simp) ?_)
    intro v' w3 hown' hgrow _
    have hB := ((Below.refl w.heap.size w).alloc (Nat.le_refl _) (.cells #[] 5)).grown hgrow (by simp) (fun k hk => by simp [Value.ownBlock] at hk; omega)
    have hown2 : w3.ownsRow w.heap.size 5 1 v' bs.length (bvs bs) := by simpa using hown'
    have HS := Lib.hid (St.fresh Hst.out (Hst.out.below hB) hown2)
    obtain ⟨A', cap', rfl⟩ := own_form hown2
    have hc := (own_cap hown2).2
    clear hown' hown2 hgrow hB
    go_wp2
    go_ret
    exact Ret.mk (.refl I) HS.out ⟨rfl, A', cap', rfl, hc, rfl⟩
theorem clone (A : Option Addr) (c : Nat) (bs : List UInt8) (hst : St I M w) (hb : Byts I A bs) (hl : bs.length ≤ 140737488351232) :
    Calls Try.prog 58 #[.slice A bs.length c] w (Ret I (NewB I M bs)) :=
  clone_src A c bs hst (fun _ h => hb.src h Try.underlying24 c) (fun h => by
    subst h
    rcases bs with _ | ⟨b, r⟩
    · rfl
    · obtain ⟨_, _, e, _⟩ := hb (by simp [bvs]); cases e) hl

/-- what a cut takes off, and what is left -/
abbrev RS := List UInt8 × Bool
def cutS (n : Int) (r : RS) : List UInt8 × RS := if r.2 = true ∨ n < 0 ∨ (r.1.length : Int) < n then ([], (r.1, true)) else (r.1.take n.toNat, (r.1.drop n.toNat, false))
theorem cutS_len (n : Int) (r : RS) (k : Nat) (h : n ≤ k) : (cutS n r).1.length ≤ k := by
  unfold cutS
  split
  · simp
  · rw [List.length_take]; omega
theorem cutS_le (n : Int) (r : RS) : (cutS n r).1.length ≤ r.1.length := by
  unfold cutS
  split
  · simp
  · rw [List.length_take]; omega
theorem cutS_left (n : Int) (r : RS) : (cutS n r).2.1.length ≤ r.1.length := by
  unfold cutS
  split
  · exact Nat.le_refl _
  · rw [List.length_drop]; omega
/-- bytes as a number -/
def numL (l : List UInt8) : Nat := l.foldl (fun x c => x * 256 + c.toNat) 0
theorem numL_snoc (l : List UInt8) (c : UInt8) : numL (l ++ [c]) = numL l * 256 + c.toNat := by simp [numL]
theorem numL_lt_aux (l : List UInt8) : ∀ acc : Nat, l.foldl (fun x c => x * 256 + c.toNat) acc < (acc + 1) * 256 ^ l.length := by
  induction l with
  | nil => intro acc; simp
  | cons c r ih =>
    intro acc
    have h1 := ih (acc * 256 + c.toNat)
    have h2 := c.toNat_lt
    have h3 : (acc * 256 + c.toNat + 1) * 256 ^ r.length ≤ ((acc + 1) * 256) * 256 ^ r.length := Nat.mul_le_mul_right _ (by omega)
    rw [List.foldl_cons, List.length_cons, Nat.pow_succ, Nat.mul_comm (256 ^ r.length) 256, ← Nat.mul_assoc]
    omega
theorem numL_lt (l : List UInt8) : numL l < 256 ^ l.length := by
  have := numL_lt_aux l 0
  simpa [numL] using this
theorem lor_add (q x : Nat) (hx : x < 256) : q * 256 ||| x = q * 256 + x := by
  have := Nat.shiftLeft_add_eq_or_of_lt (b := x) (i := 8) (by simpa using hx) q
  rw [Nat.shiftLeft_eq] at this
  simpa using this.symm
theorem or_u32 (q x : Nat) (hx : x < 256) (hq : q < 16777216) : bits BinOp.or IntKind.u32 ((q : Int) * 256) ((x : Int) % 4294967296) = ((q * 256 + x : Nat) : Int) := by
  have e1 : (x : Int) % 4294967296 = (x : Int) := by omega
  have e2 : (BitVec.ofInt 32 (((q * 256 : Nat) : Int))).toNat = q * 256 := by
    rw [BitVec.ofInt_natCast, BitVec.toNat_ofNat]; exact Nat.mod_eq_of_lt (by omega)
  have e3 : (BitVec.ofInt 32 (x : Int)).toNat = x := by
    rw [BitVec.ofInt_natCast, BitVec.toNat_ofNat]; exact Nat.mod_eq_of_lt (by omega)
  rw [e1, show ((q : Int) * 256) = ((q * 256 : Nat) : Int) by omega]
  show IntKind.u32.wrap ((BitVec.ofInt 32 ((q * 256 : Nat) : Int) ||| BitVec.ofInt 32 (x : Int)).toNat : Int) = _
  rw [BitVec.toNat_or, e2, e3, lor_add q x hx]
  simp only [IntKind.wrap, IntKind.signed, IntKind.bits]
  show ((q * 256 + x : Nat) : Int) % 4294967296 = _
  omega

/-- a reader: its block, what it holds -/
def Rdr (I : Img) (p : Nat) (r : RS) (b : Res) : Prop := ∃ A c, b = bk p 109 #[.slice A r.1.length c, .bool r.2] ∧ Byts I A r.1 ∧ r.1.length ≤ c
theorem Rdr.mono {J : Img} {p : Nat} {r : RS} {b : Res} (h : Rdr I p r b) (hl : I.le J) : Rdr J p r b := by
  obtain ⟨A, c, e, hb, hc⟩ := h
  exact ⟨A, c, e, hb.mono hl, hc⟩
set_option maxHeartbeats 400000 in
theorem rd_bad (p : Nat) (r : RS) (b : Res) (hst : St I (b :: M) w) (h : Rdr I p r b) :
    Calls Try.prog 29 #[.pointer (some ⟨p, 0, none⟩)] w fun e w' => e = .returned (.bool r.2) ∧ w = w' := by
  obtain ⟨A, c, rfl, hb, _⟩ := h
  obtain ⟨_, hc, _⟩ := Blk.two hst.head
  clear hst hb
  go_enter Try.func29, Try.ntmps29
  go_wp2
  go_ret
  exact ⟨rfl, rfl⟩
set_option maxHeartbeats 400000 in
theorem rd_left (p : Nat) (r : RS) (b : Res) (hst : St I (b :: M) w) (h : Rdr I p r b) :
    Calls Try.prog 25 #[.pointer (some ⟨p, 0, none⟩)] w fun e w' => e = .returned (.int .i64 r.1.length) ∧ w = w' := by
  obtain ⟨A, c, rfl, hb, _⟩ := h
  obtain ⟨hc, _⟩ := Blk.two hst.head
  clear hst hb
  go_enter Try.func25, Try.ntmps25
  go_wp2
  go_ret
  exact ⟨rfl, rfl⟩

def CutQ (I : Img) (M : List Res) (p : Nat) (n : Int) (r : RS) (v : Value) (J : Img) (M' : List Res) : Prop :=
  I = J ∧ ∃ A c b', v = .slice A (cutS n r).1.length c ∧ Byts I A (cutS n r).1 ∧ (cutS n r).1.length ≤ c ∧ Rdr I p (cutS n r).2 b' ∧ M' = b' :: M
set_option maxHeartbeats 400000 in
theorem rd_cut (p : Nat) (n : Int) (r : RS) (b : Res) (hst : St I (b :: M) w) (h : Rdr I p r b) (hn : n ≤ 9223372036854775807) :
    Calls Try.prog 60 #[.pointer (some ⟨p, 0, none⟩), .int .i64 n] w (Ret I (CutQ I M p n r)) := by
  obtain ⟨bs, bad⟩ := r
  have hbad := rd_bad p (bs, bad) b hst h
  obtain ⟨A, c, rfl, hB, hcap⟩ := h
  simp only at hB hcap hst
  obtain ⟨hc0, hc1, hf0, hf1, hlt⟩ := Blk.two hst.head
  have H := Lib.hid hst
  have HB := Lib.hid hB
  have Hbad := Lib.hid hbad
  clear hst hB hbad
  by_cases hx : bad = true ∨ n < 0 ∨ (bs.length : Int) < n
  · have hS : cutS n (bs, bad) = ([], (bs, true)) := by simp only [cutS]; rw [if_pos hx]
    have Fin := Lib.hid (show Ret I (CutQ I M p n (bs, bad)) (.returned (.slice none 0 0)) (w.setCell ⟨p, 1, none⟩ (.bool true)) from
      Ret.mk (.refl I) (H.out.set 1 (.bool true)) ⟨rfl, none, 0, bk p 109 #[.slice A bs.length c, .bool true], by rw [hS]; rfl, by rw [hS]; exact Byts.nil _ _, by rw [hS]; exact Nat.zero_le _, by rw [hS]; exact ⟨A, c, rfl, HB.out, hcap⟩, rfl⟩)
    clear hS
    cases bad with
    | true =>
      clear hx
      go_enter Try.func60, Try.ntmps60
      go_wp2_with (go_at_call 29; refine Hbad.out.mono ?_; rintro e w' ⟨rfl, rfl⟩)
      go_ret
      exact Fin.out
    | false =>
      by_cases h0 : n < 0
      · clear hx
        go_enter Try.func60, Try.ntmps60
        go_wp2_with (go_at_call 29; refine Hbad.out.mono ?_; rintro e w' ⟨rfl, rfl⟩)
        go_ret
        exact Fin.out
      · have h1 : (bs.length : Int) < n := by simpa [h0] using hx
        have h0' : decide (n < 0) = false := by simpa using h0
        clear hx
        go_enter Try.func60, Try.ntmps60
        go_wp2_with (go_at_call 29; refine Hbad.out.mono ?_; rintro e w' ⟨rfl, rfl⟩)
        go_ret
        exact Fin.out
  · have hS : cutS n (bs, bad) = (bs.take n.toNat, (bs.drop n.toNat, false)) := by simp only [cutS]; rw [if_neg hx]
    have hb : bad = false := by simpa using fun h => hx (.inl h)
    subst hb
    have h0 : 0 ≤ n := by omega
    have h1 : n ≤ (bs.length : Int) := by omega
    have h2 : decide (n < 0) = false := by simpa using h0
    have h3 : decide ((bs.length : Int) < n) = false := by simpa using h1
    clear hx
    obtain ⟨k, rfl⟩ := Int.eq_ofNat_of_zero_le h0
    rw [Int.toNat_natCast] at hS
    have hkl : k ≤ bs.length := by omega
    have fin : Ret I (CutQ I M p k (bs, false)) (.returned (.slice A k c)) (w.setCell ⟨p, 0, none⟩ (.slice (if c = k then A else A.map (·.add k)) (bs.length - k) (c - k))) := by
      have hlen : (bs.take k).length = k := by rw [List.length_take]; omega
      refine Ret.mk (.refl I) (H.out.set 0 _) ⟨rfl, A, c, bk p 109 #[.slice (if c = k then A else A.map (·.add k)) (bs.length - k) (c - k), .bool false], by rw [hS, hlen], by rw [hS]; exact HB.out.take k, by rw [hS, hlen]; omega, ?_, rfl⟩
      rw [hS]
      exact ⟨_, c - k, by rw [List.length_drop], HB.out.drop (n := k) hcap, by rw [List.length_drop]; omega⟩
    clear hS
    by_cases hck : c = k
    · subst hck
      rw [if_pos rfl, Nat.sub_self, show bs.length - c = 0 by omega] at fin
      have Fin := Lib.hid fin
      clear fin
      go_enter Try.func60, Try.ntmps60
      go_wp2_with (go_at_call 29; refine Hbad.out.mono ?_; rintro e w' ⟨rfl, rfl⟩)
      go_ret
      exact Fin.out
    · rw [if_neg hck] at fin
      have Fin := Lib.hid fin
      clear fin
      go_enter Try.func60, Try.ntmps60
      go_wp2_with (go_at_call 29; refine Hbad.out.mono ?_; rintro e w' ⟨rfl, rfl⟩)
      go_ret
      exact Fin.out

def NumQ (I : Img) (M : List Res) (k : IntKind) (p : Nat) (n : Int) (r : RS) (v : Value) (J : Img) (M' : List Res) : Prop :=
  I = J ∧ v = .int k (numL (cutS n r).1) ∧ ∃ b', Rdr I p (cutS n r).2 b' ∧ M' = b' :: M
set_option maxHeartbeats 400000 in
theorem rd_number (p : Nat) (n : Int) (r : RS) (b : Res) (hst : St I (b :: M) w) (h : Rdr I p r b) (hn : n ≤ 4) :
    Calls Try.prog 59 #[.pointer (some ⟨p, 0, none⟩), .int .i64 n] w (Ret I (NumQ I M .u32 p n r)) := by
  go_enter Try.func59, Try.ntmps59
  go_wp2_with fail
  refine (rd_cut p n r b hst h (by omega)).mono ?_
  rintro e w1 ⟨_, J, M1, rfl, hle, hst1, rfl, A1, c1, b', rfl, hB, _, hR, rfl⟩
  have hl4 := cutS_len n r 4 (by omega)
  have HN := Lib.hid (show Ret I (NumQ I M .u32 p n r) (.returned (.int .u32 (numL (cutS n r).1))) w1 from Ret.mk (.refl I) hst1 ⟨rfl, rfl, b', hR, rfl⟩)
  have HB := Lib.hid hB
  have H1 := Lib.hid hst1
  clear hR hB hst1 hst h hle
  generalize (cutS n r).1 = l at *
  go_wp2
  go_loop [12, 5] (fun i x => ∃ k : Nat, k ≤ l.length ∧ i = .int .i64 k ∧ x = .int .u32 (numL (l.take k))) (fun i _ => l.length - (intOf i).toNat)
  case atStart => exact ⟨0, Nat.zero_le _, rfl, rfl⟩
  case round =>
    obtain ⟨k, hk, rfl, rfl⟩ := hrel
    by_cases hlt : k < l.length
    · obtain ⟨g, o, rfl, hcell⟩ := HB.out.at (by omega)
      have hz := hcell _ _ H1.out k hlt
      clear hcell
      have hq := numL_lt (l.take k)
      have hs : numL (l.take (k + 1)) = numL (l.take k) * 256 + l[k].toNat := by rw [List.take_succ_eq_append_getElem hlt, numL_snoc]
      have Hs := Lib.hid hs
      clear hs
      have hq2 : numL (l.take k) < 16777216 := by
        have h1 : (l.take k).length ≤ 3 := by rw [List.length_take]; omega
        have h2 : 256 ^ (l.take k).length ≤ 256 ^ 3 := Nat.pow_le_pow_right (by omega) h1
        omega
      clear hq
      generalize numL (l.take k) = q at *
      go_wp2
      go_round
      case rel => exact ⟨k + 1, by omega, by go_num, by rw [or_u32 q _ l[k].toNat_lt hq2, Hs.out]⟩
      case measure => simp [intOf]; omega
    · go_wp2
      go_ret
      rw [List.take_of_length_le (by omega)]
      exact HN.out

set_option maxHeartbeats 400000 in
theorem rd_u16 (p : Nat) (r : RS) (b : Res) (hst : St I (b :: M) w) (h : Rdr I p r b) :
    Calls Try.prog 28 #[.pointer (some ⟨p, 0, none⟩)] w (Ret I (NumQ I M .u16 p 2 r)) := by
  go_enter Try.func28, Try.ntmps28
  go_wp2_with fail
  refine (rd_number p 2 r b hst h (by omega)).mono ?_
  rintro e w1 ⟨_, J, M1, rfl, hle, hst1, rfl, rfl, b', hR, rfl⟩
  have h1 := numL_lt (cutS 2 r).1
  have h2 : 256 ^ (cutS 2 r).1.length ≤ 256 ^ 2 := Nat.pow_le_pow_right (by omega) (cutS_len 2 r 2 (by omega))
  have h3 : (numL (cutS 2 r).1 : Int) ≤ 65535 := by omega
  have HN := Lib.hid (show Ret I (NumQ I M .u16 p 2 r) (.returned (.int .u16 (numL (cutS 2 r).1))) w1 from Ret.mk (.refl I) hst1 ⟨rfl, rfl, b', hR, rfl⟩)
  clear hR h1 h2 hst1 hst h hle
  go_wp2
  go_ret
  exact HN.out
set_option maxHeartbeats 400000 in
theorem rd_u8 (p : Nat) (r : RS) (b : Res) (hst : St I (b :: M) w) (h : Rdr I p r b) :
    Calls Try.prog 26 #[.pointer (some ⟨p, 0, none⟩)] w (Ret I (NumQ I M .u8 p 1 r)) := by
  go_enter Try.func26, Try.ntmps26
  go_wp2_with fail
  refine (rd_number p 1 r b hst h (by omega)).mono ?_
  rintro e w1 ⟨_, J, M1, rfl, hle, hst1, rfl, rfl, b', hR, rfl⟩
  have h1 := numL_lt (cutS 1 r).1
  have h2 : 256 ^ (cutS 1 r).1.length ≤ 256 ^ 1 := Nat.pow_le_pow_right (by omega) (cutS_len 1 r 1 (by omega))
  have h3 : (numL (cutS 1 r).1 : Int) ≤ 255 := by omega
  have HN := Lib.hid (show Ret I (NumQ I M .u8 p 1 r) (.returned (.int .u8 (numL (cutS 1 r).1))) w1 from Ret.mk (.refl I) hst1 ⟨rfl, rfl, b', hR, rfl⟩)
  clear hR h1 h2 hst1 hst h hle
  go_wp2
  go_ret
  exact HN.out
set_option maxHeartbeats 400000 in
theorem rd_u32 (p : Nat) (r : RS) (b : Res) (hst : St I (b :: M) w) (h : Rdr I p r b) :
    Calls Try.prog 62 #[.pointer (some ⟨p, 0, none⟩)] w (Ret I (NumQ I M .u32 p 4 r)) := by
  go_enter Try.func62, Try.ntmps62
  go_wp2_with fail
  refine (rd_number p 4 r b hst h (by omega)).mono ?_
  rintro e w1 ⟨_, J, M1, rfl, hle, hst1, rfl, rfl, b', hR, rfl⟩
  have HN := Lib.hid (show Ret I (NumQ I M .u32 p 4 r) (.returned (.int .u32 (numL (cutS 4 r).1))) w1 from Ret.mk (.refl I) hst1 ⟨rfl, rfl, b', hR, rfl⟩)
  clear hR hst1 hst h hle
  go_wp2
  go_ret
  exact HN.out

def TakeQ (I : Img) (M : List Res) (p : Nat) (n : Int) (r : RS) (v : Value) (J : Img) (M' : List Res) : Prop :=
  I = J ∧ ∃ A c b', v = .slice A (cutS n r).1.length c ∧ (cutS n r).1.length ≤ c ∧ Rdr I p (cutS n r).2 b' ∧ M' = row 5 1 v (cutS n r).1.length (bvs (cutS n r).1) :: b' :: M
set_option maxHeartbeats 400000 in
theorem rd_take (p : Nat) (n : Int) (r : RS) (b : Res) (hst : St I (b :: M) w) (h : Rdr I p r b) (hn : n ≤ 9223372036854775807) (hl : r.1.length ≤ 140737488351232) :
    Calls Try.prog 27 #[.pointer (some ⟨p, 0, none⟩), .int .i64 n] w (Ret I (TakeQ I M p n r)) := by
  go_enter Try.func27, Try.ntmps27
  go_wp2_with fail
  refine (rd_cut p n r b hst h hn).mono ?_
  rintro e w1 ⟨_, J, M1, rfl, hle, hst1, rfl, A1, c1, b', rfl, hB, _, hR, rfl⟩
  have hle := cutS_le n r
  go_wp2_with fail
  refine (clone _ _ _ hst1 hB (by omega)).mono ?_
  rintro e w2 ⟨_, J, M2, rfl, hle2, hst2, rfl, A2, c2, rfl, hc2, rfl⟩
  have HN := Lib.hid (show Ret I (TakeQ I M p n r) (.returned (.slice A2 (cutS n r).1.length c2)) w2 from Ret.mk (.refl I) hst2 ⟨rfl, A2, c2, b', rfl, hc2, hR, rfl⟩)
  clear hst2 hst1 hB hR hst h
  go_wp2
  go_ret
  exact HN.out

def NewRdr (_ : Img) (M : List Res) (bs : List UInt8) (v : Value) (J : Img) (M' : List Res) : Prop := ∃ p b, v = .pointer (some ⟨p, 0, none⟩) ∧ Rdr J p (bs, false) b ∧ M' = b :: M
set_option maxHeartbeats 400000 in
/-- a reader of its own over a copy of the bytes -/
theorem rd_new_src (A : Option Addr) (c : Nat) (bs : List UInt8) (hst : St I M w) (hs : ∀ w', St I M w' → Src Try.prog 1 24 (.slice A bs.length c) bs.length (bvs bs) w') (hn : A = none → bs = []) (hl : bs.length ≤ 140737488351232) :
    Calls Try.prog 24 #[.slice A bs.length c] w (Ret I (NewRdr I M bs)) := by
  go_enter Try.func24, Try.ntmps24
  go_wp2_with fail
  refine (clone_src _ _ _ hst hs hn hl).mono ?_
  rintro e w2 ⟨_, J, M2, rfl, hle2, hst2, rfl, A2, c2, rfl, hc2, rfl⟩
  obtain ⟨J2, hle3, hst3, hB⟩ := hst2.freezeRow
  have HN := Lib.hid (show Ret I (NewRdr I M bs) (.returned (.pointer (some ⟨w2.heap.size, 0, none⟩))) (w2.alloc (.cells #[.slice A2 bs.length c2, .bool false] 109)) from Ret.mk hle3 (hst3.alloc _ _) ⟨_, _, rfl, ⟨A2, c2, rfl, hB, hc2⟩, rfl⟩)
  clear hst2 hst3 hB hst hs
  go_wp2
  go_ret
  exact HN.out
theorem rd_new (A : Option Addr) (c : Nat) (bs : List UInt8) (hst : St I M w) (hb : Byts I A bs) (hl : bs.length ≤ 140737488351232) :
    Calls Try.prog 24 #[.slice A bs.length c] w (Ret I (NewRdr I M bs)) :=
  rd_new_src A c bs hst (fun _ h => hb.src h Try.underlying24 c) (fun h => by
    subst h
    rcases bs with _ | ⟨b, r⟩
    · rfl
    · obtain ⟨_, _, e, _⟩ := hb (by simp [bvs]); cases e) hl
end
/-- the next byte, and what is left -/
def u8 (r : RS) : UInt8 := (cutS 1 r).1.headD 0
def nx (r : RS) : RS := (cutS 1 r).2
theorem num_u8 (r : RS) : numL (cutS 1 r).1 = (u8 r).toNat := by
  unfold u8
  have h := cutS_len 1 r 1 (by omega)
  generalize (cutS 1 r).1 = l at *
  rcases l with _ | ⟨a, _ | ⟨b, l⟩⟩
  · rfl
  · simp [numL, List.headD]
  · simp at h
def U8Q (I : Img) (M : List Res) (p : Nat) (r : RS) (v : Value) (J : Img) (M' : List Res) : Prop := I = J ∧ v = .int .u8 (u8 r).toNat ∧ ∃ b', Rdr I p (nx r) b' ∧ M' = b' :: M
theorem rd_byte {I : Img} {M : List Res} {w : World} (p : Nat) (r : RS) (b : Res) (hst : St I (b :: M) w) (h : Rdr I p r b) :
    Calls Try.prog 26 #[.pointer (some ⟨p, 0, none⟩)] w (Ret I (U8Q I M p r)) :=
  (rd_u8 p r b hst h).mono fun _ _ ⟨v, J, M', he, hl, hs, hJ, hv, hq⟩ => ⟨v, J, M', he, hl, hs, hJ, by rw [hv, num_u8], hq⟩
end Go.Proofs.Ytddopbbmgpnjjaa
