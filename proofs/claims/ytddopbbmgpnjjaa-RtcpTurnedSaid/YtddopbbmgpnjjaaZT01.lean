/- part. -/
import Derived.Test.YtddopbbmgpnjjaaZT00
import Derived.IntWalk
namespace Go.Proofs.Ytddopbbmgpnjjaa
set_option linter.unusedSimpArgs false
open Go.RowKit
def flat {α : Type} (f : α -> List Value) : List α -> List Value
 | [] => []
 | x :: r => f x ++ flat f r
theorem Z7 {α : Type} (f : α -> List Value) (a b : List α) : flat f (a ++ b) = flat f a ++ flat f b := by
 induction a with
 | nil => rfl
 | cons x r ih => simp only [List.cons_append, flat, ih, List.append_assoc]
theorem XK {α : Type} {f : α -> List Value} {s : Nat} (hs : ∀ x, (f x).length = s) (l : List α) : (flat f l).length = l.length * s := by
 induction l with
 | nil => simp [flat]
 | cons x r ih => simp only [flat, List.length_append, hs, ih, List.length_cons, Nat.add_mul, Nat.one_mul]; omega
theorem flat_at {α : Type} {f : α -> List Value} {s : Nat} (hs : ∀ x, (f x).length = s) (l : List α) : ∀ (i j : Nat) (h : i < l.length) (_ : j < s), (flat f l)[i * s + j]? = (f l[i])[j]? := by
 induction l with
 | nil => intro i j h; cases h
 | cons x r ih =>
  intro i j h hj
  match i, h with
  | 0, _ =>
   rw [Nat.zero_mul, Nat.zero_add, flat, List.getElem?_append_left (by rw [hs]; exact hj)]
   rfl
  | i + 1, h =>
   have e1 : (i + 1) * s + j = s + (i * s + j) := by rw [Nat.add_mul, Nat.one_mul]; omega
   rw [e1, flat, List.getElem?_append_right (by rw [hs]; omega), hs, Nat.add_sub_cancel_left]
   exact ih i j (by simpa using h) hj
theorem flat_get {α : Type} {f : α -> List Value} {s : Nat} (hs : ∀ x, (f x).length = s) {I : Zh} {A : Option Addr} {l : List α} (h : Cells I A (flat f l)) (h0 : 0 < l.length) (h1 : 0 < s) :
  ∃ g o, A = some ⟨g, o, none⟩ /\ ∀ (M : List Zt) (w : World), St I M w -> ∀ i (hi : i < l.length) j, j < s -> w.cell? ⟨g, o + i * s + j, none⟩ = (f l[i])[j]? := by
 have hl := XK hs l
 obtain ⟨g, o, e, hc⟩ := h.at (by rw [hl]; exact Nat.mul_pos h0 h1)
 refine ⟨g, o, e, fun M w ZX i hi j hj => ?_⟩
 have Z0 : i * s + j < (flat f l).length := by
  rw [hl]
  have := Nat.mul_le_mul_right s (show i + 1 <= l.length by omega)
  rw [Nat.add_mul, Nat.one_mul] at this
  omega
 rw [Nat.add_assoc, hc M w ZX _ Z0, <- flat_at hs l i j hi hj, List.getElem?_eq_getElem Z0]
structure Rp where
 src : Int
 lost : Int
 total : Int
 high : Int
 Xw : Int
 last : Int
 delay : Int
structure Wn where
 src : Int
 seq : Int
structure Pk where
 kind : Int
 ZA : Int
 ZC : Int
 ZN : Int
 ZP : Int
 ZI : Int
 ZJ : Int
 ZE : List Rp
 name : ByteArray
 ZG : List Int
 ZH : List Int
 base : Int
 ref : Int
 count : Int
 ZF : List Int
 ZB : List Wn
structure Vs where
 r : Value
 s : Value
 q : Value
 a : Value
 w : Value
abbrev Yt (x : Rp) : List Value := [.int .u32 x.src, .int .u8 x.lost, .int .u32 x.total, .int .u32 x.high, .int .u32 x.Xw, .int .u32 x.last, .int .u32 x.delay]
abbrev WO (x : Wn) : List Value := [.int .u32 x.src, .int .u8 x.seq]
abbrev Xd (x : Int) : List Value := [.int .u32 x]
abbrev Yp (x : Int) : List Value := [.int .u16 x]
abbrev XC (x : Int) : List Value := [.int .i64 x]
abbrev WU (p : Pk) (v : Vs) : Array Value := #[.int .i64 p.kind, .int .u32 p.ZA, .int .u32 p.ZC, .int .u64 p.ZN, .int .u32 p.ZP, .int .u32 p.ZI, .int .u32 p.ZJ, v.r, .string p.name, v.s, v.q, .int .u16 p.base, .int .u32 p.ref, .int .u8 p.count, v.a, v.w]
def Y4 {α : Type} (I : Zh) (f : α -> List Value) (v : Value) (l : List α) : Prop := ∃ A c, v = .slice A l.length c /\ Cells I A (flat f l) /\ l.length <= c
theorem Y4.mono {α : Type} {I J : Zh} {f : α -> List Value} {v : Value} {l : List α} (h : Y4 I f v l) (hl : I.le J) : Y4 J f v l := by
 obtain ⟨A, c, e, hc, hk⟩ := h
 exact ⟨A, c, e, hc.mono hl, hk⟩
theorem Y4.nil {α : Type} (I : Zh) (f : α -> List Value) : Y4 I f (.slice none 0 0) [] := ⟨none, 0, rfl, Cells.nil _ _, Nat.le_refl _⟩
structure PkIn (I : Zh) (p : Pk) (v : Vs) : Prop where
 r : Y4 I Yt v.r p.ZE
 s : Y4 I Xd v.s p.ZG
 q : Y4 I Yp v.q p.ZH
 a : Y4 I XC v.a p.ZF
 w : Y4 I WO v.w p.ZB
theorem PkIn.mono {I J : Zh} {p : Pk} {v : Vs} (h : PkIn I p v) (hl : I.le J) : PkIn J p v := ⟨h.r.mono hl, h.s.mono hl, h.q.mono hl, h.a.mono hl, h.w.mono hl⟩
set_option maxRecDepth 8000 in
set_option maxHeartbeats 2000000 in
theorem idxR (I : Zh) (M : List Zt) (w : World) (A : Option Addr) (c k : Nat) (cap : Array Value) (l : List Rp) (p : Rp -> Bool) (eg : ∀ args w, (callFunc k args).run Try.prog w = .ok (.enter k args) w)
  (hp : ∀ (W : World), St I M W -> ∀ x ∈ l, Calls Try.prog k (#[.agg #[.int .u32 x.src, .int .u8 x.lost, .int .u32 x.total, .int .u32 x.high, .int .u32 x.Xw, .int .u32 x.last, .int .u32 x.delay]] ++ cap) W (fun e w' => e = .returned (.bool (p x)) /\ Below W.heap.size W w'))
  (ZX : St I M w) (hA : Cells I A (flat Yt l)) (hl : l.length <= 140737488351232) :
  Calls Try.prog 67 #[.slice A l.length c, .func (.func k) #[] cap] w fun e w' => e = .returned (.int .i64 (idx p l)) /\ St I M w' := by
 have H0 := VL ZX
 have HA := VL hA
 have HP := VL hp
 have EG := VL eg
 clear ZX hA hp eg
 go_enter Try.func67, Try.ntmps67
 go_wp2
 go_loopw [8] (fun iv wr => ∃ i : Nat, i <= l.length /\ iv = .int .i64 i /\ Hid ((∀ j (hj : j < l.length), j < i -> p l[j] = false) /\ St I M wr)) (fun iv _ => l.length - (intOf iv).toNat)
 case atStart => exact ⟨0, by omega, rfl, fun j hj h => by omega, H0.out⟩
 case round =>
  obtain ⟨i, hi, rfl, hh⟩ := hrel
  obtain ⟨hno, hs⟩ := hh.out
  have HNO := VL hno
  clear hh H0 hno
  by_cases Z0 : i < l.length
  ·obtain ⟨g, o, rfl, ZK⟩ := flat_get (s := 7) (fun _ => rfl) HA.out (by omega) (by decide)
   replace ZK : ∀ j, j < 7 -> wr.cell? ⟨g, o + i * 7 + j, none⟩ = (Yt l[i])[j]? := fun j hj => ZK M wr hs i Z0 j hj
   have hm := List.getElem_mem Z0
   obtain ⟨x, hxe⟩ : ∃ x, x = l[i] := ⟨_, rfl⟩
   rw [<- hxe] at ZK hm
   have z0 : wr.cell? ⟨g, o + i * 7, none⟩ = some (.int .u32 x.src) := ZK 0 (by decide)
   have z1 : wr.cell? ⟨g, o + i * 7 + 1, none⟩ = some (.int .u8 x.lost) := ZK 1 (by decide)
   have z2 : wr.cell? ⟨g, o + i * 7 + 2, none⟩ = some (.int .u32 x.total) := ZK 2 (by decide)
   have z3 : wr.cell? ⟨g, o + i * 7 + 3, none⟩ = some (.int .u32 x.high) := ZK 3 (by decide)
   have z4 : wr.cell? ⟨g, o + i * 7 + 4, none⟩ = some (.int .u32 x.Xw) := ZK 4 (by decide)
   have z5 : wr.cell? ⟨g, o + i * 7 + 5, none⟩ = some (.int .u32 x.last) := ZK 5 (by decide)
   have z6 : wr.cell? ⟨g, o + i * 7 + 6, none⟩ = some (.int .u32 x.delay) := ZK 6 (by decide)
   have hpx := HP.out wr hs x hm
   have HX := VL hxe
   have HS := VL hs
   have eg := EG.out
   clear ZK hm hxe hs
   cases hb : p x
   ·have HNO2 := VL (show ∀ j (hj : j < l.length), j < i + 1 -> p l[j] = false from fun j hj h1 => by
     by_cases e : j = i
     ·subst e; rw [<- HX.out]; exact hb
     exact HNO.out j hj (by omega))
    go_wp2_with fail
    refine hpx.mono ?_
    clear hpx
    rintro e w2 ⟨rfl, hb2⟩
    have HS2 := VL (HS.out.below hb2)
    clear hb2 z0 z1 z2 z3 z4 z5 z6
    go_wp2
    go_roundw
    case rel => exact ⟨i + 1, by omega, by go_num, HNO2.out, HS2.out⟩
    case measure => simp [intOf]; omega
   have HE := VL (show idx p l = (i : Int) from idx_hit Z0 (by rw [<- HX.out]; exact hb) HNO.out)
   go_wp2_with fail
   refine hpx.mono ?_
   clear hpx
   rintro e w2 ⟨rfl, hb2⟩
   have HS2 := VL (HS.out.below hb2)
   clear hb2 z0 z1 z2 z3 z4 z5 z6
   go_wp2
   go_returns
   exact ⟨ret_eq (by rw [HE.out]; rfl), HS2.out⟩
  have HE := VL (show idx p l = -1 from idx_none (fun j hj => HNO.out j hj (by omega)))
  have hk2 : (l.length : Int) <= i := by omega
  have HS2 := VL hs
  clear Z0 hs
  go_wp2
  go_returns
  exact ⟨ret_eq (by rw [HE.out]; rfl), HS2.out⟩
set_option maxHeartbeats 400000 in
theorem anyR (I : Zh) (M : List Zt) (w : World) (A : Option Addr) (c k : Nat) (cap : Array Value) (l : List Rp) (p : Rp -> Bool) (eg : ∀ args w, (callFunc k args).run Try.prog w = .ok (.enter k args) w)
  (hp : ∀ (W : World), St I M W -> ∀ x ∈ l, Calls Try.prog k (#[.agg #[.int .u32 x.src, .int .u8 x.lost, .int .u32 x.total, .int .u32 x.high, .int .u32 x.Xw, .int .u32 x.last, .int .u32 x.delay]] ++ cap) W (fun e w' => e = .returned (.bool (p x)) /\ Below W.heap.size W w'))
  (ZX : St I M w) (hA : Cells I A (flat Yt l)) (hl : l.length <= 140737488351232) :
  Calls Try.prog 41 #[.slice A l.length c, .func (.func k) #[] cap] w fun e w' => e = .returned (.bool (l.any p)) /\ St I M w' := by
 have HC := VL (idxR I M w A c k cap l p eg hp ZX hA hl)
 have HI := VL (idx_any p l)
 clear hp ZX hA eg
 go_enter Try.func41, Try.ntmps41
 go_wp2_with fail
 go_at_call 67
 refine HC.out.mono ?_
 rintro e w2 ⟨rfl, hs⟩
 have HS := VL hs
 clear hs HC
 go_wp2
 go_returns
 exact ⟨ret_eq (by rw [<- HI.out]; rfl), HS.out⟩
set_option maxRecDepth 8000 in
set_option maxHeartbeats 2000000 in
theorem idxI (I : Zh) (M : List Zt) (w : World) (A : Option Addr) (c k : Nat) (cap : Array Value) (l : List Int) (p : Int -> Bool) (eg : ∀ args w, (callFunc k args).run Try.prog w = .ok (.enter k args) w)
  (hp : ∀ (W : World), St I M W -> ∀ x ∈ l, Calls Try.prog k (#[.int .i64 x] ++ cap) W (fun e w' => e = .returned (.bool (p x)) /\ Below W.heap.size W w'))
  (ZX : St I M w) (hA : Cells I A (flat XC l)) (hl : l.length <= 140737488351232) :
  Calls Try.prog 68 #[.slice A l.length c, .func (.func k) #[] cap] w fun e w' => e = .returned (.int .i64 (idx p l)) /\ St I M w' := by
 have H0 := VL ZX
 have HA := VL hA
 have HP := VL hp
 have EG := VL eg
 clear ZX hA hp eg
 go_enter Try.func68, Try.ntmps68
 go_wp2
 go_loopw [8] (fun iv wr => ∃ i : Nat, i <= l.length /\ iv = .int .i64 i /\ Hid ((∀ j (hj : j < l.length), j < i -> p l[j] = false) /\ St I M wr)) (fun iv _ => l.length - (intOf iv).toNat)
 case atStart => exact ⟨0, by omega, rfl, fun j hj h => by omega, H0.out⟩
 case round =>
  obtain ⟨i, hi, rfl, hh⟩ := hrel
  obtain ⟨hno, hs⟩ := hh.out
  have HNO := VL hno
  clear hh H0 hno
  by_cases Z0 : i < l.length
  ·obtain ⟨g, o, rfl, ZK⟩ := flat_get (s := 1) (fun _ => rfl) HA.out (by omega) (by decide)
   replace ZK : ∀ j, j < 1 -> wr.cell? ⟨g, o + i * 1 + j, none⟩ = (XC l[i])[j]? := fun j hj => ZK M wr hs i Z0 j hj
   simp only [Nat.mul_one] at ZK
   have hm := List.getElem_mem Z0
   obtain ⟨x, hxe⟩ : ∃ x, x = l[i] := ⟨_, rfl⟩
   rw [<- hxe] at ZK hm
   have z0 : wr.cell? ⟨g, o + i, none⟩ = some (.int .i64 x) := ZK 0 (by decide)
   have hpx := HP.out wr hs x hm
   have HX := VL hxe
   have HS := VL hs
   have eg := EG.out
   clear ZK hm hxe hs
   cases hb : p x
   ·have HNO2 := VL (show ∀ j (hj : j < l.length), j < i + 1 -> p l[j] = false from fun j hj h1 => by
     by_cases e : j = i
     ·subst e; rw [<- HX.out]; exact hb
     exact HNO.out j hj (by omega))
    go_wp2_with fail
    refine hpx.mono ?_
    clear hpx
    rintro e w2 ⟨rfl, hb2⟩
    have HS2 := VL (HS.out.below hb2)
    clear hb2 z0
    go_wp2
    go_roundw
    case rel => exact ⟨i + 1, by omega, by go_num, HNO2.out, HS2.out⟩
    case measure => simp [intOf]; omega
   have HE := VL (show idx p l = (i : Int) from idx_hit Z0 (by rw [<- HX.out]; exact hb) HNO.out)
   go_wp2_with fail
   refine hpx.mono ?_
   clear hpx
   rintro e w2 ⟨rfl, hb2⟩
   have HS2 := VL (HS.out.below hb2)
   clear hb2 z0
   go_wp2
   go_returns
   exact ⟨ret_eq (by rw [HE.out]; rfl), HS2.out⟩
  have HE := VL (show idx p l = -1 from idx_none (fun j hj => HNO.out j hj (by omega)))
  have hk2 : (l.length : Int) <= i := by omega
  have HS2 := VL hs
  clear Z0 hs
  go_wp2
  go_returns
  exact ⟨ret_eq (by rw [HE.out]; rfl), HS2.out⟩
set_option maxHeartbeats 400000 in
theorem anyI (I : Zh) (M : List Zt) (w : World) (A : Option Addr) (c k : Nat) (cap : Array Value) (l : List Int) (p : Int -> Bool) (eg : ∀ args w, (callFunc k args).run Try.prog w = .ok (.enter k args) w)
  (hp : ∀ (W : World), St I M W -> ∀ x ∈ l, Calls Try.prog k (#[.int .i64 x] ++ cap) W (fun e w' => e = .returned (.bool (p x)) /\ Below W.heap.size W w'))
  (ZX : St I M w) (hA : Cells I A (flat XC l)) (hl : l.length <= 140737488351232) :
  Calls Try.prog 44 #[.slice A l.length c, .func (.func k) #[] cap] w fun e w' => e = .returned (.bool (l.any p)) /\ St I M w' := by
 have HC := VL (idxI I M w A c k cap l p eg hp ZX hA hl)
 have HI := VL (idx_any p l)
 clear hp ZX hA eg
 go_enter Try.func44, Try.ntmps44
 go_wp2_with fail
 go_at_call 68
 refine HC.out.mono ?_
 rintro e w2 ⟨rfl, hs⟩
 have HS := VL hs
 clear hs HC
 go_wp2
 go_returns
 exact ⟨ret_eq (by rw [<- HI.out]; rfl), HS.out⟩
theorem WK {a b : Bool} (h : a = b) : Ending.returned (.bool a) = .returned (.bool b) := by rw [h]
def XQ (n lo hi : Int) : Bool := decide (lo <= n) && decide (n <= hi)
set_option maxHeartbeats 400000 in
theorem WI (n lo hi : Int) (w : World) : Calls Try.prog 19 #[.int .i64 n, .int .i64 lo, .int .i64 hi] w fun e w' => e = .returned (.bool (XQ n lo hi)) /\ w = w' := by
 have HE := VL (show XQ n lo hi = (decide (lo <= n) && decide (n <= hi)) from rfl)
 by_cases h : lo <= n
 ·go_enter Try.func19, Try.ntmps19
  go_wp2
  go_returns
  exact ⟨WK (by rw [HE.out, decide_eq_true h]; rfl), rfl⟩
 have h' : decide (lo <= n) = false := decide_eq_false h
 go_enter Try.func19, Try.ntmps19
 go_wp2
 go_returns
 exact ⟨WK (by rw [HE.out, h']; rfl), rfl⟩
def Yb (a b : Int) : Bool := decide (0 < (b - a) % 65536) && decide ((b - a) % 65536 < 32768)
theorem before_eq (a b : Int) : Yb a b = ((IntKind.u16.wrap (b - a) != 0) && decide (IntKind.u16.wrap (b - a) < 32768)) := by
 rw [Y9]
 unfold Yb
 congr 1
 rw [Bool.eq_iff_iff]
 simp
 omega
theorem before_eq16 (a b : Int) : Yb a b = decide (0 < IntKind.i16.wrap (IntKind.u16.wrap (b - a))) := by
 have e : ∀ x, IntKind.i16.wrap x = (x + 32768) % 65536 - 32768 := by
  intro x
  simp only [IntKind.wrap, IntKind.signed, IntKind.bits]
  show (if (true && decide (x % 65536 >= 32768)) = true then x % 65536 - 65536 else x % 65536) = _
  by_cases h : x % 65536 >= 32768
  ·rw [if_pos (by simp [h])]; omega
  rw [if_neg (by simp [h])]; omega
 rw [e, Y9]
 unfold Yb
 rw [Bool.eq_iff_iff]
 simp
 omega
set_option maxHeartbeats 400000 in
theorem beforeR (a b : Int) (w : World) : Calls Try.prog 34 #[.int .u16 a, .int .u16 b] w fun e w' => e = .returned (.bool (Yb a b)) /\ w = w' := by
 have HE := VL (before_eq a b)
 cases h : (IntKind.u16.wrap (b - a) != 0)
 ·go_enter Try.func34, Try.ntmps34
  go_wp2
  go_returns
  exact ⟨WK (by rw [HE.out]; simp [h]), rfl⟩
 go_enter Try.func34, Try.ntmps34
 go_wp2
 go_returns
 exact ⟨WK (by rw [HE.out]; simp [h]), rfl⟩
set_option maxHeartbeats 400000 in
theorem beforeC (a b : Int) (w : World) : Calls Try.prog 43 #[.int .u16 a, .int .u16 b] w fun e w' => e = .returned (.bool (Yb a b)) /\ w = w' := by
 have HE := VL (before_eq16 a b)
 go_enter Try.func43, Try.ntmps43
 go_wp2
 go_returns
 exact ⟨WK HE.out.symm, rfl⟩
def Z8 (k : Int) : Int × Int := if k = 1 then (200, -1) else if k = 2 then (201, -1) else if k = 3 then (202, 1) else if k = 4 then (203, -1) else if k = 5 then (205, 1) else if k = 6 then (205, 15) else if k = 7 then (206, 1) else (206, 4)
set_option maxHeartbeats 400000 in
theorem VD (k : Int) (w : World) : Calls Try.prog 47 #[.int .i64 k] w fun e w' => e = .returned (.tuple #[.int .u8 (Z8 k).1, .int .i64 (Z8 k).2]) /\ w = w' := by
 by_cases h1 : k = 1
 ·subst h1; go_enter Try.func47, Try.ntmps47; go_wp2; go_returns; exact ⟨rfl, rfl⟩
 by_cases h2 : k = 2
 ·subst h2; go_enter Try.func47, Try.ntmps47; go_wp2; go_returns; exact ⟨rfl, rfl⟩
 by_cases h3 : k = 3
 ·subst h3; go_enter Try.func47, Try.ntmps47; go_wp2; go_returns; exact ⟨rfl, rfl⟩
 by_cases h4 : k = 4
 ·subst h4; go_enter Try.func47, Try.ntmps47; go_wp2; go_returns; exact ⟨rfl, rfl⟩
 by_cases h5 : k = 5
 ·subst h5; go_enter Try.func47, Try.ntmps47; go_wp2; go_returns; exact ⟨rfl, rfl⟩
 by_cases h6 : k = 6
 ·subst h6; go_enter Try.func47, Try.ntmps47; go_wp2; go_returns; exact ⟨rfl, rfl⟩
 by_cases h7 : k = 7
 ·subst h7; go_enter Try.func47, Try.ntmps47; go_wp2; go_returns; exact ⟨rfl, rfl⟩
 have HE := VL (show Z8 k = (206, 4) from by unfold Z8; rw [if_neg h1, if_neg h2, if_neg h3, if_neg h4, if_neg h5, if_neg h6, if_neg h7])
 have g1 : (k == 1) = false := beq_eq_false_iff_ne.2 h1
 have g2 : (k == 2) = false := beq_eq_false_iff_ne.2 h2
 have g3 : (k == 3) = false := beq_eq_false_iff_ne.2 h3
 have g4 : (k == 4) = false := beq_eq_false_iff_ne.2 h4
 have g5 : (k == 5) = false := beq_eq_false_iff_ne.2 h5
 have g6 : (k == 6) = false := beq_eq_false_iff_ne.2 h6
 have g7 : (k == 7) = false := beq_eq_false_iff_ne.2 h7
 go_enter Try.func47, Try.ntmps47
 go_wp2
 go_returns
 exact ⟨by rw [HE.out]; rfl, rfl⟩
def bigT (x : Rp) : Bool := decide (16777216 <= x.total)
theorem big_eq {t : Int} (h0 : 0 <= t) : (t / 16777216 != 0) = decide (16777216 <= t) := by
 rw [Bool.eq_iff_iff]; simp; omega
set_option maxHeartbeats 400000 in
theorem bigC (x : Rp) (w : World) (h0 : 0 <= x.total) (_h1 : x.total <= 4294967295) : Calls Try.prog 42 #[.agg #[.int .u32 x.src, .int .u8 x.lost, .int .u32 x.total, .int .u32 x.high, .int .u32 x.Xw, .int .u32 x.last, .int .u32 x.delay]] w fun e w' => e = .returned (.bool (bigT x)) /\ Below w.heap.size w w' := by
 have HE := VL (big_eq h0)
 go_enter Try.func42, Try.ntmps42
 go_wp2
 go_returns
 exact ⟨WK HE.out, (Below.refl _ _).alloc (Nat.le_refl _) _⟩
def Xp (a : Int) : Bool := (a != 65536) && !(XQ a (-32768) 32767)
set_option maxHeartbeats 400000 in
theorem badC (a : Int) (w : World) : Calls Try.prog 45 #[.int .i64 a] w fun e w' => e = .returned (.bool (Xp a)) /\ Below w.heap.size w w' := by
 have HE := VL (show Xp a = ((a != 65536) && !(XQ a (-32768) 32767)) from rfl)
 have HC := VL (WI a (-32768) 32767 w)
 cases h : (a != 65536)
 ·go_enter Try.func45, Try.ntmps45
  go_wp2
  go_returns
  exact ⟨WK (by rw [HE.out, h]; rfl), Below.refl _ _⟩
 go_enter Try.func45, Try.ntmps45
 go_wp2_with fail
 go_at_call 19
 refine HC.out.mono ?_
 rintro e w2 ⟨rfl, hw⟩
 subst hw
 go_wp2
 go_returns
 exact ⟨WK (by rw [HE.out, h]; rfl), Below.refl _ _⟩
end Go.Proofs.Ytddopbbmgpnjjaa
