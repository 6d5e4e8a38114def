/- packets of rtcp in memory; functions on lists. -/
import Derived.Test.YtddopbbmgpnjjaaMo
import Derived.Test.YtddopbbmgpnjjaaSl
import Derived.Test.YtddopbbmgpnjjaaTx
import Derived.IntWalk
namespace Go.Proofs.Ytddopbbmgpnjjaa
open Go.RowKit
set_option linter.unusedSimpArgs false

def flat {α : Type} (f : α → List Value) : List α → List Value
  | [] => []
  | x :: r => f x ++ flat f r
theorem flat_append {α : Type} (f : α → List Value) (a b : List α) : flat f (a ++ b) = flat f a ++ flat f b := by
  induction a with
  | nil => rfl
  | cons x r ih => simp only [List.cons_append, flat, ih, List.append_assoc]
theorem flat_len {α : Type} {f : α → List Value} {s : Nat} (hs : ∀ x, (f x).length = s) (l : List α) : (flat f l).length = l.length * s := by
  induction l with
  | nil => simp [flat]
  | cons x r ih => simp only [flat, List.length_append, hs, ih, List.length_cons, Nat.add_mul, Nat.one_mul]; omega
theorem flat_at {α : Type} {f : α → List Value} {s : Nat} (hs : ∀ x, (f x).length = s) (l : List α) : ∀ (i j : Nat) (h : i < l.length) (_ : j < s), (flat f l)[i * s + j]? = (f l[i])[j]? := by
  induction l with
  | nil => intro i j h; cases h
  | cons x r ih =>
    intro i j h hj
    match i, h with
    | 0, _ =>
      rw [Nat.zero_mul, Nat.zero_add, flat, List.getElem?_append_left (by rw [hs]; exact hj)]
      rfl
    | i + 1, h =>
      have e1 : (i + 1) * s + j = s + (i * s + j) := by rw [Nat.add_mul, Nat.one_mul]; omega
      rw [e1, flat, List.getElem?_append_right (by rw [hs]; omega), hs, Nat.add_sub_cancel_left]
      exact ih i j (by simpa using h) hj
/-- a slice of structs in what stays as it is -/
theorem flat_get {α : Type} {f : α → List Value} {s : Nat} (hs : ∀ x, (f x).length = s) {I : Img} {A : Option Addr} {l : List α} (h : Cells I A (flat f l)) (h0 : 0 < l.length) (h1 : 0 < s) :
    ∃ g o, A = some ⟨g, o, none⟩ ∧ ∀ (M : List Res) (w : World), St I M w → ∀ i (hi : i < l.length) j, j < s → w.cell? ⟨g, o + i * s + j, none⟩ = (f l[i])[j]? := by
  have hl := flat_len hs l
  obtain ⟨g, o, e, hc⟩ := h.at (by rw [hl]; exact Nat.mul_pos h0 h1)
  refine ⟨g, o, e, fun M w hst i hi j hj => ?_⟩
  have hlt : i * s + j < (flat f l).length := by
    rw [hl]
    have := Nat.mul_le_mul_right s (show i + 1 ≤ l.length by omega)
    rw [Nat.add_mul, Nat.one_mul] at this
    omega
  rw [Nat.add_assoc, hc M w hst _ hlt, ← flat_at hs l i j hi hj, List.getElem?_eq_getElem hlt]
/-- a report -/
structure Rp where
  src : Int
  lost : Int
  total : Int
  high : Int
  jit : Int
  last : Int
  delay : Int
/-- what is wanted of a source -/
structure Wn where
  src : Int
  seq : Int
/-- a packet -/
structure Pk where
  kind : Int
  sender : Int
  media : Int
  ntp : Int
  rtp : Int
  pkts : Int
  octs : Int
  reps : List Rp
  name : ByteArray
  srcs : List Int
  seqs : List Int
  base : Int
  ref : Int
  count : Int
  arrs : List Int
  wants : List Wn
/-- its slices -/
structure Vs where
  r : Value
  s : Value
  q : Value
  a : Value
  w : Value
abbrev repC (x : Rp) : List Value := [.int .u32 x.src, .int .u8 x.lost, .int .u32 x.total, .int .u32 x.high, .int .u32 x.jit, .int .u32 x.last, .int .u32 x.delay]
abbrev wnC (x : Wn) : List Value := [.int .u32 x.src, .int .u8 x.seq]
abbrev u32C (x : Int) : List Value := [.int .u32 x]
abbrev u16C (x : Int) : List Value := [.int .u16 x]
abbrev intC (x : Int) : List Value := [.int .i64 x]
abbrev pkC (p : Pk) (v : Vs) : Array Value := #[.int .i64 p.kind, .int .u32 p.sender, .int .u32 p.media, .int .u64 p.ntp, .int .u32 p.rtp, .int .u32 p.pkts, .int .u32 p.octs, v.r, .string p.name, v.s, v.q, .int .u16 p.base, .int .u32 p.ref, .int .u8 p.count, v.a, v.w]
/-- a slice that is read only: its elements' cells -/
def SlC {α : Type} (I : Img) (f : α → List Value) (v : Value) (l : List α) : Prop := ∃ A c, v = .slice A l.length c ∧ Cells I A (flat f l) ∧ l.length ≤ c
theorem SlC.mono {α : Type} {I J : Img} {f : α → List Value} {v : Value} {l : List α} (h : SlC I f v l) (hl : I.le J) : SlC J f v l := by
  obtain ⟨A, c, e, hc, hk⟩ := h
  exact ⟨A, c, e, hc.mono hl, hk⟩
theorem SlC.nil {α : Type} (I : Img) (f : α → List Value) : SlC I f (.slice none 0 0) [] := ⟨none, 0, rfl, Cells.nil _ _, Nat.le_refl _⟩
/-- a packet's slices -/
structure PkIn (I : Img) (p : Pk) (v : Vs) : Prop where
  r : SlC I repC v.r p.reps
  s : SlC I u32C v.s p.srcs
  q : SlC I u16C v.q p.seqs
  a : SlC I intC v.a p.arrs
  w : SlC I wnC v.w p.wants
theorem PkIn.mono {I J : Img} {p : Pk} {v : Vs} (h : PkIn I p v) (hl : I.le J) : PkIn J p v := ⟨h.r.mono hl, h.s.mono hl, h.q.mono hl, h.a.mono hl, h.w.mono hl⟩

set_option maxRecDepth 8000 in
set_option maxHeartbeats 2000000 in
theorem idxR (I : Img) (M : List Res) (w : World) (A : Option Addr) (c k : Nat) (cap : Array Value) (l : List Rp) (p : Rp → Bool) (eg : ∀ args w, (callFunc k args).run Try.prog w = .ok (.enter k args) w)
    (hp : ∀ (W : World), St I M W → ∀ x ∈ l, Calls Try.prog k (#[.agg #[.int .u32 x.src, .int .u8 x.lost, .int .u32 x.total, .int .u32 x.high, .int .u32 x.jit, .int .u32 x.last, .int .u32 x.delay]] ++ cap) W (fun e w' => e = .returned (.bool (p x)) ∧ Below W.heap.size W w'))
    (hst : St I M w) (hA : Cells I A (flat repC l)) (hl : l.length ≤ 140737488351232) :
    Calls Try.prog 67 #[.slice A l.length c, .func (.func k) #[] cap] w fun e w' => e = .returned (.int .i64 (idx p l)) ∧ St I M w' := by
  have H0 := Lib.hid hst
  have HA := Lib.hid hA
  have HP := Lib.hid hp
  have EG := Lib.hid eg
  clear hst hA hp eg
  go_enter Try.func67, Try.ntmps67
  go_wp2
  go_loopw [8] (fun iv wr => ∃ i : Nat, i ≤ l.length ∧ iv = .int .i64 i ∧ Hid ((∀ j (hj : j < l.length), j < i → p l[j] = false) ∧ St I M wr)) (fun iv _ => l.length - (intOf iv).toNat)
  case atStart => exact ⟨0, by omega, rfl, fun j hj h => by omega, H0.out⟩
  case round =>
    obtain ⟨i, hi, rfl, hh⟩ := hrel
    obtain ⟨hno, hs⟩ := hh.out
    have HNO := Lib.hid hno
    clear hh H0 hno
    by_cases hlt : i < l.length
    · obtain ⟨g, o, rfl, hcell⟩ := flat_get (s := 7) (fun _ => rfl) HA.out (by omega) (by decide)
      replace hcell : ∀ j, j < 7 → wr.cell? ⟨g, o + i * 7 + j, none⟩ = (repC l[i])[j]? := fun j hj => hcell M wr hs i hlt j hj
      have hm := List.getElem_mem hlt
      obtain ⟨x, hxe⟩ : ∃ x, x = l[i] := ⟨_, rfl⟩
      rw [← hxe] at hcell hm
      have z0 : wr.cell? ⟨g, o + i * 7, none⟩ = some (.int .u32 x.src) := hcell 0 (by decide)
      have z1 : wr.cell? ⟨g, o + i * 7 + 1, none⟩ = some (.int .u8 x.lost) := hcell 1 (by decide)
      have z2 : wr.cell? ⟨g, o + i * 7 + 2, none⟩ = some (.int .u32 x.total) := hcell 2 (by decide)
      have z3 : wr.cell? ⟨g, o + i * 7 + 3, none⟩ = some (.int .u32 x.high) := hcell 3 (by decide)
      have z4 : wr.cell? ⟨g, o + i * 7 + 4, none⟩ = some (.int .u32 x.jit) := hcell 4 (by decide)
      have z5 : wr.cell? ⟨g, o + i * 7 + 5, none⟩ = some (.int .u32 x.last) := hcell 5 (by decide)
      have z6 : wr.cell? ⟨g, o + i * 7 + 6, none⟩ = some (.int .u32 x.delay) := hcell 6 (by decide)
      have hpx := HP.out wr hs x hm
      have HX := Lib.hid hxe
      have HS := Lib.hid hs
      have eg := EG.out
      clear hcell hm hxe hs
      cases hb : p x
      · have HNO2 := Lib.hid (show ∀ j (hj : j < l.length), j < i + 1 → p l[j] = false from fun j hj h1 => by
          by_cases e : j = i
          · subst e; rw [← HX.out]; exact hb
          · exact HNO.out j hj (by omega))
        go_wp2_with fail
        refine hpx.mono ?_
        clear hpx
        rintro e w2 ⟨rfl, hb2⟩
        have HS2 := Lib.hid (HS.out.below hb2)
        clear hb2 z0 z1 z2 z3 z4 z5 z6
        go_wp2
        go_roundw
        case rel => exact ⟨i + 1, by omega, by go_num, HNO2.out, HS2.out⟩
        case measure => simp [intOf]; omega
      · have HE := Lib.hid (show idx p l = (i : Int) from idx_hit hlt (by rw [← HX.out]; exact hb) HNO.out)
        go_wp2_with fail
        refine hpx.mono ?_
        clear hpx
        rintro e w2 ⟨rfl, hb2⟩
        have HS2 := Lib.hid (HS.out.below hb2)
        clear hb2 z0 z1 z2 z3 z4 z5 z6
        go_wp2
        go_returns
        exact ⟨ret_eq (by rw [HE.out]; rfl), HS2.out⟩
    · have HE := Lib.hid (show idx p l = -1 from idx_none (fun j hj => HNO.out j hj (by omega)))
      have hk2 : (l.length : Int) ≤ i := by omega
      have HS2 := Lib.hid hs
      clear hlt hs
      go_wp2
      go_returns
      exact ⟨ret_eq (by rw [HE.out]; rfl), HS2.out⟩
set_option maxHeartbeats 400000 in
theorem anyR (I : Img) (M : List Res) (w : World) (A : Option Addr) (c k : Nat) (cap : Array Value) (l : List Rp) (p : Rp → Bool) (eg : ∀ args w, (callFunc k args).run Try.prog w = .ok (.enter k args) w)
    (hp : ∀ (W : World), St I M W → ∀ x ∈ l, Calls Try.prog k (#[.agg #[.int .u32 x.src, .int .u8 x.lost, .int .u32 x.total, .int .u32 x.high, .int .u32 x.jit, .int .u32 x.last, .int .u32 x.delay]] ++ cap) W (fun e w' => e = .returned (.bool (p x)) ∧ Below W.heap.size W w'))
    (hst : St I M w) (hA : Cells I A (flat repC l)) (hl : l.length ≤ 140737488351232) :
    Calls Try.prog 41 #[.slice A l.length c, .func (.func k) #[] cap] w fun e w' => e = .returned (.bool (l.any p)) ∧ St I M w' := by
  have HC := Lib.hid (idxR I M w A c k cap l p eg hp hst hA hl)
  have HI := Lib.hid (idx_any p l)
  clear hp hst hA eg
  go_enter Try.func41, Try.ntmps41
  go_wp2_with fail
  go_at_call 67
  refine HC.out.mono ?_
  rintro e w2 ⟨rfl, hs⟩
  have HS := Lib.hid hs
  clear hs HC
  go_wp2
  go_returns
  exact ⟨ret_eq (by rw [← HI.out]; rfl), HS.out⟩

set_option maxRecDepth 8000 in
set_option maxHeartbeats 2000000 in
theorem idxI (I : Img) (M : List Res) (w : World) (A : Option Addr) (c k : Nat) (cap : Array Value) (l : List Int) (p : Int → Bool) (eg : ∀ args w, (callFunc k args).run Try.prog w = .ok (.enter k args) w)
    (hp : ∀ (W : World), St I M W → ∀ x ∈ l, Calls Try.prog k (#[.int .i64 x] ++ cap) W (fun e w' => e = .returned (.bool (p x)) ∧ Below W.heap.size W w'))
    (hst : St I M w) (hA : Cells I A (flat intC l)) (hl : l.length ≤ 140737488351232) :
    Calls Try.prog 68 #[.slice A l.length c, .func (.func k) #[] cap] w fun e w' => e = .returned (.int .i64 (idx p l)) ∧ St I M w' := by
  have H0 := Lib.hid hst
  have HA := Lib.hid hA
  have HP := Lib.hid hp
  have EG := Lib.hid eg
  clear hst hA hp eg
  go_enter Try.func68, Try.ntmps68
  go_wp2
  go_loopw [8] (fun iv wr => ∃ i : Nat, i ≤ l.length ∧ iv = .int .i64 i ∧ Hid ((∀ j (hj : j < l.length), j < i → p l[j] = false) ∧ St I M wr)) (fun iv _ => l.length - (intOf iv).toNat)
  case atStart => exact ⟨0, by omega, rfl, fun j hj h => by omega, H0.out⟩
  case round =>
    obtain ⟨i, hi, rfl, hh⟩ := hrel
    obtain ⟨hno, hs⟩ := hh.out
    have HNO := Lib.hid hno
    clear hh H0 hno
    by_cases hlt : i < l.length
    · obtain ⟨g, o, rfl, hcell⟩ := flat_get (s := 1) (fun _ => rfl) HA.out (by omega) (by decide)
      replace hcell : ∀ j, j < 1 → wr.cell? ⟨g, o + i * 1 + j, none⟩ = (intC l[i])[j]? := fun j hj => hcell M wr hs i hlt j hj
      simp only [Nat.mul_one] at hcell
      have hm := List.getElem_mem hlt
      obtain ⟨x, hxe⟩ : ∃ x, x = l[i] := ⟨_, rfl⟩
      rw [← hxe] at hcell hm
      have z0 : wr.cell? ⟨g, o + i, none⟩ = some (.int .i64 x) := hcell 0 (by decide)
      have hpx := HP.out wr hs x hm
      have HX := Lib.hid hxe
      have HS := Lib.hid hs
      have eg := EG.out
      clear hcell hm hxe hs
      cases hb : p x
      · have HNO2 := Lib.hid (show ∀ j (hj : j < l.length), j < i + 1 → p l[j] = false from fun j hj h1 => by
          by_cases e : j = i
          · subst e; rw [← HX.out]; exact hb
          · exact HNO.out j hj (by omega))
        go_wp2_with fail
        refine hpx.mono ?_
        clear hpx
        rintro e w2 ⟨rfl, hb2⟩
        have HS2 := Lib.hid (HS.out.below hb2)
        clear hb2 z0
        go_wp2
        go_roundw
        case rel => exact ⟨i + 1, by omega, by go_num, HNO2.out, HS2.out⟩
        case measure => simp [intOf]; omega
      · have HE := Lib.hid (show idx p l = (i : Int) from idx_hit hlt (by rw [← HX.out]; exact hb) HNO.out)
        go_wp2_with fail
        refine hpx.mono ?_
        clear hpx
        rintro e w2 ⟨rfl, hb2⟩
        have HS2 := Lib.hid (HS.out.below hb2)
        clear hb2 z0
        go_wp2
        go_returns
        exact ⟨ret_eq (by rw [HE.out]; rfl), HS2.out⟩
    · have HE := Lib.hid (show idx p l = -1 from idx_none (fun j hj => HNO.out j hj (by omega)))
      have hk2 : (l.length : Int) ≤ i := by omega
      have HS2 := Lib.hid hs
      clear hlt hs
      go_wp2
      go_returns
      exact ⟨ret_eq (by rw [HE.out]; rfl), HS2.out⟩
set_option maxHeartbeats 400000 in
theorem anyI (I : Img) (M : List Res) (w : World) (A : Option Addr) (c k : Nat) (cap : Array Value) (l : List Int) (p : Int → Bool) (eg : ∀ args w, (callFunc k args).run Try.prog w = .ok (.enter k args) w)
    (hp : ∀ (W : World), St I M W → ∀ x ∈ l, Calls Try.prog k (#[.int .i64 x] ++ cap) W (fun e w' => e = .returned (.bool (p x)) ∧ Below W.heap.size W w'))
    (hst : St I M w) (hA : Cells I A (flat intC l)) (hl : l.length ≤ 140737488351232) :
    Calls Try.prog 44 #[.slice A l.length c, .func (.func k) #[] cap] w fun e w' => e = .returned (.bool (l.any p)) ∧ St I M w' := by
  have HC := Lib.hid (idxI I M w A c k cap l p eg hp hst hA hl)
  have HI := Lib.hid (idx_any p l)
  clear hp hst hA eg
  go_enter Try.func44, Try.ntmps44
  go_wp2_with fail
  go_at_call 68
  refine HC.out.mono ?_
  rintro e w2 ⟨rfl, hs⟩
  have HS := Lib.hid hs
  clear hs HC
  go_wp2
  go_returns
  exact ⟨ret_eq (by rw [← HI.out]; rfl), HS.out⟩

end Go.Proofs.Ytddopbbmgpnjjaa
