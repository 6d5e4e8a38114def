/- wire.Reader's methods, told of whatever bytes it holds. -/
import Derived.Test.YtpfacfolocjidaaClone
namespace Go.Proofs.Ytpfacfolocjidaa
open Go.RowKit

/-- a reader that holds the bytes bs -/
structure Rd (w : World) (p : Nat) (A : Option Addr) (c : Nat) (bs : List UInt8) (bad : Bool) : Prop where
  blk : Blk w p 92 #[.slice A bs.length c, .bool bad]
  byts : Byts w A bs
  cap : bs.length ≤ c
theorem Byts.ne {w : World} {A : Option Addr} {bs : List UInt8} {p T : Nat} {b : Bool} {a : Option Addr} {n c : Nat} (h : Byts w A bs) (hk : Blk w p T #[.slice a n c, .bool b]) : ∀ g o, A = some ⟨g, o, none⟩ → 0 < bs.length → g ≠ p := by
  rintro g o rfl h0 rfl
  obtain ⟨g', o', e, _, hc⟩ := h h0
  injection e with e
  injection e with e1 e2
  subst e1 e2
  have := hc 0 h0
  rw [hk.cell] at this
  match o, this with
  | 0, this => simp at this
  | 1, this => simp at this
  | o + 2, this => simp at this
/-- bytes keep when a block that holds none of them is written -/
theorem Byts.fr {w w' : World} {A : Option Addr} {bs : List UInt8} {p : Nat} {v : Value} (h : Byts w A bs) (f : Fr w w' p v) (hne : ∀ g o, A = some ⟨g, o, none⟩ → 0 < bs.length → g ≠ p ∧ v.ownBlock ≠ some g) : Byts w' A bs := by
  intro h0
  obtain ⟨g, o, rfl, hg, hc⟩ := h h0
  obtain ⟨h1, h2⟩ := hne g o rfl h0
  refine ⟨g, o, rfl, by have := f.size; omega, fun j hj => ?_⟩
  rw [World.cell?_of_block (w := w) (f.block g hg h1 (fun e => h2 e.symm))]
  exact hc j hj
theorem Fr.setOne (w : World) (p : Addr) (u : Value) (v : Value) : Fr w (w.setCell p u) p.block v :=
  ⟨rfl, rfl, rfl, by simp [World.setCell], fun k _ hk _ => Below.heap_setCell _ _ _ _ hk⟩
theorem Blk.set {w : World} {g : Nat} {t : TypeId} {cs : Array Value} (h : Blk w g t cs) (i : Nat) (u : Value) : Blk (w.setCell ⟨g, i, none⟩ u) g t (cs.setIfInBounds i u) := by
  unfold Blk at h ⊢
  simp [World.setCell, Array.getElem?_modify, h]
theorem Byts.take {w : World} {A : Option Addr} {bs : List UInt8} (h : Byts w A bs) (n : Nat) : Byts w A (bs.take n) := by
  intro h0
  have hl : (bs.take n).length ≤ bs.length := by rw [List.length_take]; omega
  obtain ⟨g, o, e, hg, hc⟩ := h (by omega)
  refine ⟨g, o, e, hg, fun j hj => ?_⟩
  rw [List.getElem_take]
  exact hc j (by omega)
theorem Byts.drop {w : World} {A : Option Addr} {bs : List UInt8} (h : Byts w A bs) {n c : Nat} (hc : bs.length ≤ c) : Byts w (if c = n then A else A.map (·.add n)) (bs.drop n) := by
  intro h0
  rw [List.length_drop] at h0
  obtain ⟨g, o, rfl, hg, hcell⟩ := h (by omega)
  rw [if_neg (by omega)]
  refine ⟨g, o + n, by simp [add_at], hg, fun j hj => ?_⟩
  rw [List.getElem_drop, Nat.add_assoc]
  exact hcell (n + j) _

/-- what a cut takes off, and what is left -/
abbrev RS := List UInt8 × Bool
def cutS (n : Int) (r : RS) : List UInt8 × RS := if r.2 = true ∨ n < 0 ∨ (r.1.length : Int) < n then ([], (r.1, true)) else (r.1.take n.toNat, (r.1.drop n.toNat, false))

def CutPost (p : Nat) (n : Int) (r : RS) (w : World) (e : Ending) (w' : World) : Prop :=
  ∃ A c A' c', e = .returned (.slice A (cutS n r).1.length c) ∧ Byts w' A (cutS n r).1 ∧ Rd w' p A' c' (cutS n r).2.1 (cutS n r).2.2 ∧ Fr w w' p (.slice none 0 0) ∧ (cutS n r).1.length ≤ c

set_option maxHeartbeats 400000 in
theorem rd_bad (p : Nat) (A : Option Addr) (c : Nat) (r : RS) (w : World) (h : Rd w p A c r.1 r.2) :
    Calls Try.prog 42 #[.pointer (some ⟨p, 0, none⟩)] w fun e w' => e = .returned (.bool r.2) ∧ w = w' := by
  have hc := h.blk.cell 1
  simp only [List.getElem?_toArray, List.getElem?_cons_succ, List.getElem?_cons_zero] at hc
  go_enter Try.func42, Try.ntmps42
  go_wp2
  go_ret
  exact ⟨rfl, rfl⟩
set_option maxHeartbeats 400000 in
theorem rd_left (p : Nat) (A : Option Addr) (c : Nat) (r : RS) (w : World) (h : Rd w p A c r.1 r.2) :
    Calls Try.prog 43 #[.pointer (some ⟨p, 0, none⟩)] w fun e w' => e = .returned (.int .i64 r.1.length) ∧ w = w' := by
  have hc := h.blk.cell 0
  simp only [List.getElem?_toArray, List.getElem?_cons_zero] at hc
  go_enter Try.func43, Try.ntmps43
  go_wp2
  go_ret
  exact ⟨rfl, rfl⟩

set_option maxHeartbeats 400000 in
theorem rd_cut (p : Nat) (n : Int) (A : Option Addr) (c : Nat) (r : RS) (w : World) (h : Rd w p A c r.1 r.2) (hn : n ≤ 9223372036854775807) :
    Calls Try.prog 46 #[.pointer (some ⟨p, 0, none⟩), .int .i64 n] w (CutPost p n r w) := by
  obtain ⟨bs, bad⟩ := r
  have hc0 := h.blk.cell 0
  have hc1 := h.blk.cell 1
  have hf0 := h.blk.frozen 0
  have hf1 := h.blk.frozen 1
  have hlt := h.blk.lt
  have hcap := h.cap
  have H := Lib.hid h
  clear h
  simp only [List.getElem?_toArray, List.getElem?_cons_zero, List.getElem?_cons_succ] at hc0 hc1
  by_cases hx : bad = true ∨ n < 0 ∨ (bs.length : Int) < n
  · have hS : cutS n (bs, bad) = ([], (bs, true)) := by simp only [cutS]; rw [if_pos hx]
    have HS := Lib.hid hS
    have fin : CutPost p n (bs, bad) w (.returned (.slice none 0 0)) (w.setCell ⟨p, 1, none⟩ (.bool true)) := by
      have f := Fr.setOne w ⟨p, 1, none⟩ (.bool true) (.slice none 0 0)
      refine ⟨none, 0, A, c, by rw [hS]; rfl, by rw [hS]; exact Byts.nil _ _, ?_, f, by rw [hS]; exact Nat.zero_le _⟩
      rw [hS]
      exact ⟨H.out.blk.set 1 (.bool true), H.out.byts.fr f (fun g o e h0 => ⟨H.out.byts.ne H.out.blk g o e h0, by simp [Value.ownBlock]⟩), hcap⟩
    have Fin := Lib.hid fin
    clear hS fin
    cases bad with
    | true =>
      clear hx
      go_enter Try.func46, Try.ntmps46
      go_wp2_with (go_at_call 42; refine (rd_bad p A c (bs, true) _ H.out).mono ?_; rintro e w' ⟨rfl, rfl⟩)
      go_ret
      exact Fin.out
    | false =>
      by_cases h0 : n < 0
      · clear hx
        go_enter Try.func46, Try.ntmps46
        go_wp2_with (go_at_call 42; refine (rd_bad p A c (bs, false) _ H.out).mono ?_; rintro e w' ⟨rfl, rfl⟩)
        go_ret
        exact Fin.out
      · have h1 : (bs.length : Int) < n := by simpa [h0] using hx
        have h0' : decide (n < 0) = false := by simpa using h0
        clear hx
        go_enter Try.func46, Try.ntmps46
        go_wp2_with (go_at_call 42; refine (rd_bad p A c (bs, false) _ H.out).mono ?_; rintro e w' ⟨rfl, rfl⟩)
        go_ret
        exact Fin.out
  · have hS : cutS n (bs, bad) = (bs.take n.toNat, (bs.drop n.toNat, false)) := by simp only [cutS]; rw [if_neg hx]
    have hb : bad = false := by simpa using fun h => hx (.inl h)
    subst hb
    have h0 : 0 ≤ n := by omega
    have h1 : n ≤ (bs.length : Int) := by omega
    have h2 : decide (n < 0) = false := by simpa using h0
    have h3 : decide ((bs.length : Int) < n) = false := by simpa using h1
    clear hx
    obtain ⟨k, rfl⟩ := Int.eq_ofNat_of_zero_le h0
    rw [Int.toNat_natCast] at hS
    have hkl : k ≤ bs.length := by omega
    have fin : CutPost p k (bs, false) w (.returned (.slice A k c)) (w.setCell ⟨p, 0, none⟩ (.slice (if c = k then A else A.map (·.add k)) (bs.length - k) (c - k))) := by
      have f := Fr.setOne w ⟨p, 0, none⟩ (.slice (if c = k then A else A.map (·.add k)) (bs.length - k) (c - k)) (.slice none 0 0)
      have hne := fun g o e h0 => H.out.byts.ne H.out.blk g o e h0
      have hlen : (bs.take k).length = k := by rw [List.length_take]; omega
      have hB := H.out.byts.fr f (fun g o e h0 => ⟨hne g o e h0, by simp [Value.ownBlock]⟩)
      refine ⟨A, c, (if c = k then A else A.map (·.add k)), c - k, by rw [hS, hlen], by rw [hS]; exact hB.take k, ?_, f, by rw [hS, hlen]; show k ≤ c; have : bs.length ≤ c := hcap; omega⟩
      rw [hS]
      have hd := hB.drop (n := k) hcap
      refine ⟨?_, hd, by show (bs.drop k).length ≤ c - k; have : bs.length ≤ c := hcap; rw [List.length_drop]; omega⟩
      have := H.out.blk.set 0 (.slice (if c = k then A else A.map (·.add k)) (bs.length - k) (c - k))
      rw [List.length_drop]
      exact this
    clear hS
    have hcap' : bs.length ≤ c := hcap
    by_cases hck : c = k
    · subst hck
      rw [if_pos rfl, Nat.sub_self, show bs.length - c = 0 by omega] at fin
      have Fin := Lib.hid fin
      clear fin
      go_enter Try.func46, Try.ntmps46
      go_wp2_with (go_at_call 42; refine (rd_bad p A _ (bs, false) _ H.out).mono ?_; rintro e w' ⟨rfl, rfl⟩)
      go_ret
      exact Fin.out
    · rw [if_neg hck] at fin
      have Fin := Lib.hid fin
      clear fin
      go_enter Try.func46, Try.ntmps46
      go_wp2_with (go_at_call 42; refine (rd_bad p A c (bs, false) _ H.out).mono ?_; rintro e w' ⟨rfl, rfl⟩)
      go_ret
      exact Fin.out

/-- bytes as a number, of four at the most -/
def numL (l : List UInt8) : Nat := l.foldl (fun x c => x * 256 + c.toNat) 0
theorem numL_snoc (l : List UInt8) (c : UInt8) : numL (l ++ [c]) = numL l * 256 + c.toNat := by simp [numL]
theorem numL_lt_aux (l : List UInt8) : ∀ acc : Nat, l.foldl (fun x c => x * 256 + c.toNat) acc < (acc + 1) * 256 ^ l.length := by
  induction l with
  | nil => intro acc; simp
  | cons c r ih =>
    intro acc
    have h1 := ih (acc * 256 + c.toNat)
    have h2 := c.toNat_lt
    have h3 : (acc * 256 + c.toNat + 1) * 256 ^ r.length ≤ ((acc + 1) * 256) * 256 ^ r.length := Nat.mul_le_mul_right _ (by omega)
    rw [List.foldl_cons, List.length_cons, Nat.pow_succ, Nat.mul_comm (256 ^ r.length) 256, ← Nat.mul_assoc]
    omega
theorem numL_lt (l : List UInt8) : numL l < 256 ^ l.length := by
  have := numL_lt_aux l 0
  simpa [numL] using this
theorem lor_add (q x : Nat) (hx : x < 256) : q * 256 ||| x = q * 256 + x := by
  have := Nat.shiftLeft_add_eq_or_of_lt (b := x) (i := 8) (by simpa using hx) q
  rw [Nat.shiftLeft_eq] at this
  simpa using this.symm
theorem or_u32 (q x : Nat) (hx : x < 256) (hq : q < 16777216) : bits BinOp.or IntKind.u32 ((q : Int) * 256) ((x : Int) % 4294967296) = ((q * 256 + x : Nat) : Int) := by
  have e1 : (x : Int) % 4294967296 = (x : Int) := by omega
  have e2 : (BitVec.ofInt 32 (((q * 256 : Nat) : Int))).toNat = q * 256 := by
    rw [BitVec.ofInt_natCast, BitVec.toNat_ofNat]; exact Nat.mod_eq_of_lt (by omega)
  have e3 : (BitVec.ofInt 32 (x : Int)).toNat = x := by
    rw [BitVec.ofInt_natCast, BitVec.toNat_ofNat]; exact Nat.mod_eq_of_lt (by omega)
  rw [e1, show ((q : Int) * 256) = ((q * 256 : Nat) : Int) by omega]
  show IntKind.u32.wrap ((BitVec.ofInt 32 ((q * 256 : Nat) : Int) ||| BitVec.ofInt 32 (x : Int)).toNat : Int) = _
  rw [BitVec.toNat_or, e2, e3, lor_add q x hx]
  simp only [IntKind.wrap, IntKind.signed, IntKind.bits]
  show ((q * 256 + x : Nat) : Int) % 4294967296 = _
  omega

def NumPost (p : Nat) (n : Int) (r : RS) (w : World) (e : Ending) (w' : World) : Prop :=
  ∃ A' c', e = .returned (.int .u32 (numL (cutS n r).1)) ∧ Rd w' p A' c' (cutS n r).2.1 (cutS n r).2.2 ∧ Fr w w' p (.slice none 0 0)

set_option maxHeartbeats 400000 in
theorem rd_number (p : Nat) (n : Int) (A : Option Addr) (c : Nat) (r : RS) (w : World) (h : Rd w p A c r.1 r.2) (hn : n ≤ 4) :
    Calls Try.prog 45 #[.pointer (some ⟨p, 0, none⟩), .int .i64 n] w (NumPost p n r w) := by
  go_enter Try.func45, Try.ntmps45
  go_wp2_with fail
  refine (rd_cut p n A c r _ h (by omega)).mono ?_
  rintro e w1 ⟨A1, c1, A2, c2, rfl, hB, hR, hF, hc⟩
  have hl4 : (cutS n r).1.length ≤ 4 := by
    unfold cutS
    split
    · simp
    · rw [List.length_take]; omega
  have HR := Lib.hid hR
  have HF := Lib.hid hF
  have HB := Lib.hid hB
  have hN : NumPost p n r w (.returned (.int .u32 (numL (cutS n r).1))) w1 := ⟨A2, c2, rfl, hR, hF⟩
  have HN := Lib.hid hN
  clear hR hF hB hN
  generalize (cutS n r).1 = l at *
  go_wp2
  go_loop [12, 5] (fun i x => ∃ k : Nat, k ≤ l.length ∧ i = .int .i64 k ∧ x = .int .u32 (numL (l.take k))) (fun i _ => l.length - (intOf i).toNat)
  case atStart => exact ⟨0, Nat.zero_le _, rfl, rfl⟩
  case round =>
    obtain ⟨k, hk, rfl, rfl⟩ := hrel
    by_cases hlt : k < l.length
    · obtain ⟨g, o, rfl, hg, hcell⟩ := HB.out (by omega)
      have hz := hcell k hlt
      clear hcell
      have hq := numL_lt (l.take k)
      have hs : numL (l.take (k + 1)) = numL (l.take k) * 256 + l[k].toNat := by rw [List.take_succ_eq_append_getElem hlt, numL_snoc]
      have Hs := Lib.hid hs
      clear hs
      have hq2 : numL (l.take k) < 16777216 := by
        have h1 : (l.take k).length ≤ 3 := by rw [List.length_take]; omega
        have h2 : 256 ^ (l.take k).length ≤ 256 ^ 3 := Nat.pow_le_pow_right (by omega) h1
        omega
      clear hq
      generalize numL (l.take k) = q at *
      go_wp2
      go_round
      case rel => exact ⟨k + 1, by omega, by go_num, by rw [or_u32 q _ l[k].toNat_lt hq2, Hs.out]⟩
      case measure => simp [intOf]; omega
    · go_wp2
      go_ret
      rw [List.take_of_length_le (by omega)]
      exact HN.out

def ReadPost (k : IntKind) (p : Nat) (n : Int) (r : RS) (w : World) (e : Ending) (w' : World) : Prop :=
  ∃ A' c', e = .returned (.int k (numL (cutS n r).1)) ∧ Rd w' p A' c' (cutS n r).2.1 (cutS n r).2.2 ∧ Fr w w' p (.slice none 0 0)
theorem cutS_len (n : Int) (r : RS) (k : Nat) (h : n ≤ k) : (cutS n r).1.length ≤ k := by
  unfold cutS
  split
  · simp
  · rw [List.length_take]; omega
set_option maxHeartbeats 400000 in
theorem rd_u16 (p : Nat) (A : Option Addr) (c : Nat) (r : RS) (w : World) (h : Rd w p A c r.1 r.2) :
    Calls Try.prog 39 #[.pointer (some ⟨p, 0, none⟩)] w (ReadPost .u16 p 2 r w) := by
  go_enter Try.func39, Try.ntmps39
  go_wp2_with fail
  refine (rd_number p 2 A c r _ h (by omega)).mono ?_
  rintro e w1 ⟨A', c', rfl, hR, hF⟩
  have h1 := numL_lt (cutS 2 r).1
  have h2 : 256 ^ (cutS 2 r).1.length ≤ 256 ^ 2 := Nat.pow_le_pow_right (by omega) (cutS_len 2 r 2 (by omega))
  have h3 : (numL (cutS 2 r).1 : Int) < 65536 := by omega
  have HN := Lib.hid (show ReadPost .u16 p 2 r w (.returned (.int .u16 (numL (cutS 2 r).1))) w1 from ⟨A', c', rfl, hR, hF⟩)
  clear hR hF h1 h2
  go_wp2
  go_ret
  exact HN.out
set_option maxHeartbeats 400000 in
theorem rd_u32 (p : Nat) (A : Option Addr) (c : Nat) (r : RS) (w : World) (h : Rd w p A c r.1 r.2) :
    Calls Try.prog 40 #[.pointer (some ⟨p, 0, none⟩)] w (ReadPost .u32 p 4 r w) := by
  go_enter Try.func40, Try.ntmps40
  go_wp2_with fail
  refine (rd_number p 4 A c r _ h (by omega)).mono ?_
  rintro e w1 ⟨A', c', rfl, hR, hF⟩
  have HN := Lib.hid (show ReadPost .u32 p 4 r w (.returned (.int .u32 (numL (cutS 4 r).1))) w1 from ⟨A', c', rfl, hR, hF⟩)
  clear hR hF
  go_wp2
  go_ret
  exact HN.out

/-- new memory with the bytes that were taken off -/
def TakePost (p : Nat) (n : Int) (r : RS) (w : World) (e : Ending) (w' : World) : Prop :=
  ∃ v A' c', e = .returned v ∧ w'.ownsRow w.heap.size 5 1 v (cutS n r).1.length (bvs (cutS n r).1) ∧ Rd w' p A' c' (cutS n r).2.1 (cutS n r).2.2 ∧ Fr w w' p (.slice none 0 0)
theorem Rd.below {w w' : World} {p c : Nat} {A : Option Addr} {bs : List UInt8} {bad : Bool} (h : Rd w p A c bs bad) (hb : Below w.heap.size w w') : Rd w' p A c bs bad :=
  ⟨h.blk.below hb h.blk.lt, h.byts.below hb (Nat.le_refl _), h.cap⟩
theorem cutS_le (n : Int) (r : RS) : (cutS n r).1.length ≤ r.1.length := by
  unfold cutS
  split
  · simp
  · rw [List.length_take]; omega
theorem cutS_left (n : Int) (r : RS) : (cutS n r).2.1.length ≤ r.1.length := by
  unfold cutS
  split
  · exact Nat.le_refl _
  · rw [List.length_drop]; omega
set_option maxHeartbeats 400000 in
theorem rd_take (p : Nat) (n : Int) (A : Option Addr) (c : Nat) (r : RS) (w : World) (h : Rd w p A c r.1 r.2) (hn : n ≤ 9223372036854775807) (hl : r.1.length ≤ 140737488351232) :
    Calls Try.prog 41 #[.pointer (some ⟨p, 0, none⟩), .int .i64 n] w (TakePost p n r w) := by
  go_enter Try.func41, Try.ntmps41
  go_wp2_with fail
  refine (rd_cut p n A c r _ h hn).mono ?_
  rintro e w1 ⟨A1, c1, A2, c2, rfl, hB, hR, hF, _⟩
  have hle := cutS_le n r
  have HR := Lib.hid hR
  have HF := Lib.hid hF
  clear hR hF
  go_wp2_with fail
  refine (clone _ _ _ _ hB (by omega)).mono ?_
  rintro e w2 ⟨v, rfl, hO, hb2⟩
  have HN := Lib.hid (show TakePost p n r w (.returned v) w2 from ⟨v, A2, c2, rfl, own_mono hO HF.out.size, HR.out.below hb2, HF.out.then_ hb2⟩)
  clear hO hb2 hB
  go_wp2
  go_ret
  exact HN.out

set_option maxHeartbeats 400000 in
/-- a reader of its own over a copy of the bytes -/
theorem rd_new (A : Option Addr) (c : Nat) (bs : List UInt8) (w : World) (hb : Byts w A bs) (hl : bs.length ≤ 140737488351232) :
    Calls Try.prog 38 #[.slice A bs.length c] w fun e w' => ∃ p A' c', e = .returned (.pointer (some ⟨p, 0, none⟩)) ∧ w.heap.size ≤ p ∧ Rd w' p A' c' bs false ∧ Below w.heap.size w w' := by
  go_enter Try.func38, Try.ntmps38
  go_wp2_with fail
  refine (clone _ _ _ _ hb hl).mono ?_
  rintro e w2 ⟨v, rfl, hO, hb2⟩
  obtain ⟨A', c', rfl⟩ := own_form hO
  have hcap : bs.length ≤ c' := by
    rcases hO.2 with ⟨h, hn⟩ | ⟨g, cap, cur, h, _, _, hc, _⟩
    · injection h with _ _ h; omega
    · injection h with _ _ h; omega
  have hR : Rd (w2.alloc (.cells #[.slice A' bs.length c', .bool false] 92)) w2.heap.size A' c' bs false :=
    ⟨Blk.new _ _ _, (Byts.of_own hO).below ((Below.refl _ _).alloc (Nat.le_refl _) _) (Nat.le_refl _), hcap⟩
  have hs := hb2.size
  have HN := Lib.hid (show ∃ p A'' c'', Ending.returned (.pointer (some ⟨w2.heap.size, 0, none⟩)) = .returned (.pointer (some ⟨p, 0, none⟩)) ∧ w.heap.size ≤ p ∧ Rd (w2.alloc (.cells #[.slice A' bs.length c', .bool false] 92)) p A'' c'' bs false ∧ Below w.heap.size w (w2.alloc (.cells #[.slice A' bs.length c', .bool false] 92)) from ⟨_, _, _, rfl, hs, hR, hb2.alloc hs _⟩)
  clear hO hR hb2
  go_wp2
  go_ret
  exact HN.out
end Go.Proofs.Ytpfacfolocjidaa
