/- part. -/
import Derived.Test.YtddopbbmgpnjjaaZT17
namespace Go.Proofs.Ytddopbbmgpnjjaa
set_option linter.unusedSimpArgs false
open Go.RowKit
def mkN (l : List Int) (j : Nat) : Nat := if h : j < l.length then (YC l[j]).toNat else 0
theorem mkN_le (l : List Int) (j : Nat) : mkN l j <= 2 := by
 unfold mkN
 split
 ·have := Xg (l[j]); omega
 omega
theorem mkN_in {l : List Int} {j : Nat} (h : j < l.length) : (mkN l j : Int) = YC l[j] := by
 unfold mkN
 rw [dif_pos h]
 have := Xg (l[j])
 omega
theorem mkN_out {l : List Int} {j : Nat} (h : l.length <= j) : mkN l j = 0 := by
 unfold mkN
 rw [dif_neg (by omega)]
def cv (l : List Int) (i : Nat) : Nat -> Nat
 | 0 => 0
 | k + 1 => 4 * cv l i k + mkN l (i + k)
theorem cv_lt (l : List Int) (i : Nat) : ∀ k, cv l i k < 4 ^ k
 | 0 => by simp [cv]
 | k + 1 => by
  have h1 := cv_lt l i k
  have h2 := mkN_le l (i + k)
  rw [Nat.pow_succ]
  unfold cv
  omega
theorem cv_out (l : List Int) (i k : Nat) (h : l.length <= i + k) : ∀ d, cv l i (k + d) = cv l i k * 4 ^ d
 | 0 => by simp
 | d + 1 => by
  show 4 * cv l i (k + d) + mkN l (i + (k + d)) = _
  rw [cv_out l i k h d, mkN_out (by omega), Nat.pow_succ]
  rw [Nat.add_zero, Nat.mul_comm 4, Nat.mul_assoc]
def WP (l : List Int) (i : Nat) : Int := 49152 + (cv l i 7 : Nat)
def Xu (l : List Int) : Nat -> List UInt8
 | 0 => []
 | t + 1 => Xu l t ++ Zi (WP l (7 * t))
theorem marksT_len (l : List Int) : ∀ t, (Xu l t).length = 2 * t
 | 0 => rfl
 | t + 1 => by
  show (Xu l t ++ Zi _).length = _
  rw [List.length_append, marksT_len l t, Zz]; omega
def XW (a : Int) : List UInt8 := if YC a = 1 then [byteOf (a % 256)] else if YC a = 2 then Zi (a % 65536) else []
theorem farO_le (a : Int) : (XW a).length <= 2 := by
 unfold XW
 repeat' split
 ·simp
 ·rw [Zz]; omega
 simp
theorem or_u16_low (a b s : Nat) (hb : b < 2 ^ s) (hl : a * 2 ^ s + b < 65536) : bits BinOp.or IntKind.u16 ((a * 2 ^ s : Nat) : Int) (b : Int) = ((a * 2 ^ s + b : Nat) : Int) := by
 have hor : a * 2 ^ s ||| b = a * 2 ^ s + b := by
  have := Nat.shiftLeft_add_eq_or_of_lt (b := b) (i := s) hb a
  rw [Nat.shiftLeft_eq] at this
  exact this.symm
 generalize a * 2 ^ s = p at hor hl ⊢
 rw [or_u16 p b (by omega) (by omega), hor]
theorem ch_next (A m k : Nat) (hk : k < 7) (hA : A < 4 ^ k) (hm : m <= 2) : bits BinOp.or IntKind.u16 ((A * 2 ^ (14 - 2 * k) : Nat) : Int) (IntKind.u16.wrap ((m : Int) * 2 ^ (12 - 2 * k))) = (((4 * A + m) * 2 ^ (12 - 2 * k) : Nat) : Int) := by
 have h7 : k = 0 \/ k = 1 \/ k = 2 \/ k = 3 \/ k = 4 \/ k = 5 \/ k = 6 := by omega
 have key : ∀ p q : Nat, 2 ^ (14 - 2 * k) = 2 ^ p -> 2 ^ (12 - 2 * k) = 2 ^ q -> p = q + 2 -> (A + 1) * 2 ^ p <= 16384 -> bits BinOp.or IntKind.u16 ((A * 2 ^ (14 - 2 * k) : Nat) : Int) (IntKind.u16.wrap ((m : Int) * 2 ^ (12 - 2 * k))) = (((4 * A + m) * 2 ^ (12 - 2 * k) : Nat) : Int) := by
  intro p q h1 h2 hp Z5
  have h2' : ((2 : Int) ^ (12 - 2 * k)) = ((2 ^ q : Nat) : Int) := by rw [<- h2]; simp
  rw [h1, h2, h2', hp]
  have e4 : 2 ^ (q + 2) = 4 * 2 ^ q := by rw [Nat.pow_add]; omega
  rw [hp, e4] at Z5
  have hmq : m * 2 ^ q < 2 ^ (q + 2) := by
   rw [e4]
   have : 0 < 2 ^ q := Nat.two_pow_pos q
   calc m * 2 ^ q <= 2 * 2 ^ q := Nat.mul_le_mul_right _ hm
    _ < 4 * 2 ^ q := by omega
  have hsum : A * 2 ^ (q + 2) + m * 2 ^ q < 65536 := by
   rw [e4] at hmq ⊢
   rw [Nat.add_mul] at Z5
   omega
  have h3 : IntKind.u16.wrap ((m : Int) * ((2 ^ q : Nat) : Int)) = ((m * 2 ^ q : Nat) : Int) := by
   rw [Y9, <- Int.natCast_mul]
   generalize m * 2 ^ q = z at hmq hsum ⊢
   omega
  rw [h3, or_u16_low A (m * 2 ^ q) (q + 2) hmq hsum, e4]
  congr 1
  rw [Nat.add_mul, Nat.mul_left_comm, Nat.mul_assoc]
 rcases h7 with rfl | rfl | rfl | rfl | rfl | rfl | rfl
 ·exact key 14 12 rfl rfl rfl (by simp at hA ⊢; omega)
 ·exact key 12 10 rfl rfl rfl (by simp at hA ⊢; omega)
 ·exact key 10 8 rfl rfl rfl (by simp at hA ⊢; omega)
 ·exact key 8 6 rfl rfl rfl (by simp at hA ⊢; omega)
 ·exact key 6 4 rfl rfl rfl (by simp at hA ⊢; omega)
 ·exact key 4 2 rfl rfl rfl (by simp at hA ⊢; omega)
 exact key 2 0 rfl rfl rfl (by simp at hA ⊢; omega)
theorem top_or (x : Nat) (h : x < 16384) : bits BinOp.or IntKind.u16 49152 (x : Int) = 49152 + (x : Int) := by
 have := or_u16_low 3 x 14 (by simpa using h) (by simp; omega)
 have e : ((3 * 2 ^ 14 : Nat) : Int) = 49152 := by decide
 have e2 : ((3 * 2 ^ 14 + x : Nat) : Int) = 49152 + (x : Int) := by simp
 rw [e, e2] at this
 exact this
theorem fold_state (l : List Int) : ∀ j, j <= l.length -> (((l.take j).map XN).foldl (Y2 l.length) ms0).n = j /\ (((l.take j).map XN).foldl (Y2 l.length) ms0).far = (l.take j).flatMap XW /\
  (j < l.length -> (((l.take j).map XN).foldl (Y2 l.length) ms0).Wz = Xu l (j / 7) /\ (((l.take j).map XN).foldl (Y2 l.length) ms0).ch = ((cv l (7 * (j / 7)) (j % 7) * 2 ^ (14 - 2 * (j % 7)) : Nat) : Int)) /\
  (j = l.length -> 0 < j -> (((l.take j).map XN).foldl (Y2 l.length) ms0).Wz = Xu l ((l.length + 6) / 7)) := by
 intro j
 induction j with
 | zero => intro _; exact ⟨rfl, rfl, fun _ => ⟨rfl, by simp [cv, ms0]⟩, fun _ h => absurd h (Nat.lt_irrefl _)⟩
 | succ j ih =>
  intro hj
  obtain ⟨h1, h2, h3, -⟩ := ih (by omega)
  obtain ⟨h4, h5⟩ := h3 (by omega)
  have htk : (l.take (j + 1)).map XN = (l.take j).map XN ++ [XN l[j]] := by
   rw [List.take_succ_eq_append_getElem (by omega), List.map_append]; rfl
  have htk2 : (l.take (j + 1)).flatMap XW = (l.take j).flatMap XW ++ XW l[j] := by
   rw [List.take_succ_eq_append_getElem (by omega), List.flatMap_append, List.flatMap_singleton]
  rw [htk, htk2, List.foldl_append]
  simp only [List.foldl_cons, List.foldl_nil]
  generalize ((l.take j).map XN).foldl (Y2 l.length) ms0 = s at h1 h2 h4 h5
  have hk : j % 7 < 7 := Nat.mod_lt _ (by decide)
  have hA := cv_lt l (7 * (j / 7)) (j % 7)
  have hje : 7 * (j / 7) + j % 7 = j := Nat.div_add_mod j 7
  have hmi := mkN_in (l := l) (j := j) (by omega)
  have hch : chM s (YC l[j]) = ((cv l (7 * (j / 7)) (j % 7 + 1) * 2 ^ (12 - 2 * (j % 7)) : Nat) : Int) := by
   unfold chM
   rw [h5, h1, <- hmi, ch_next _ _ _ hk hA (mkN_le l j)]
   show _ = (((4 * cv l (7 * (j / 7)) (j % 7) + mkN l (7 * (j / 7) + j % 7)) * 2 ^ (12 - 2 * (j % 7)) : Nat) : Int)
   rw [hje]
  have hfar : (Y2 l.length s (XN l[j])).far = s.far ++ XW l[j] := by
   show (if YC l[j] = 1 then s.far ++ [byteOf (l[j] % 256)] else if YC l[j] = 2 then s.far ++ Zi (l[j] % 65536) else s.far) = _
   unfold XW
   split
   ·rfl
   split
   ·rfl
   simp
  have hn : (Y2 l.length s (XN l[j])).n = j + 1 := by show s.n + 1 = _; rw [h1]
  refine ⟨hn, by rw [hfar, h2], fun Z0 => ?_, fun he _ => ?_⟩
  ·by_cases hf : (j + 1) % 7 = 0
   ·have hfull : XH l.length s = true := by unfold XH; rw [h1, decide_eq_true hf]; rfl
    have hk6 : j % 7 = 6 := by omega
    have hd : (j + 1) / 7 = j / 7 + 1 := by omega
    constructor
    ·show (if XH l.length s then s.Wz ++ Zi (bits BinOp.or IntKind.u16 49152 (chM s (YC l[j]))) else s.Wz) = _
     rw [hfull, if_pos rfl, hch, hk6, hd, h4]
     have h7 := cv_lt l (7 * (j / 7)) 7
     have e : cv l (7 * (j / 7)) (6 + 1) * 2 ^ (12 - 2 * 6) = cv l (7 * (j / 7)) 7 := by simp
     rw [e, top_or _ (by simpa using h7)]
     rfl
    show (if XH l.length s then (0 : Int) else chM s (YC l[j])) = _
    rw [hfull, if_pos rfl, hf]
    simp [cv]
   have hfull : XH l.length s = false := by unfold XH; rw [h1, decide_eq_false hf, decide_eq_false (by omega)]; rfl
   have hd : (j + 1) / 7 = j / 7 := by omega
   have hm : (j + 1) % 7 = j % 7 + 1 := by omega
   constructor
   ·show (if XH l.length s then s.Wz ++ Zi (bits BinOp.or IntKind.u16 49152 (chM s (YC l[j]))) else s.Wz) = _
    rw [hfull, hd, h4]; rfl
   show (if XH l.length s then (0 : Int) else chM s (YC l[j])) = _
   rw [hfull, hd, hm, hch]
   have e : 14 - 2 * (j % 7 + 1) = 12 - 2 * (j % 7) := by omega
   rw [e]; rfl
  have hfull : XH l.length s = true := by unfold XH; rw [h1, decide_eq_true he, Bool.or_true]
  show (if XH l.length s then s.Wz ++ Zi (bits BinOp.or IntKind.u16 49152 (chM s (YC l[j]))) else s.Wz) = _
  have hd : (l.length + 6) / 7 = j / 7 + 1 := by omega
  have h7 := cv_lt l (7 * (j / 7)) 7
  have ho := cv_out l (7 * (j / 7)) (j % 7 + 1) (by omega) (6 - j % 7)
  have e7 : j % 7 + 1 + (6 - j % 7) = 7 := by omega
  have e4 : (4 : Nat) ^ (6 - j % 7) = 2 ^ (12 - 2 * (j % 7)) := by
   have : 12 - 2 * (j % 7) = 2 * (6 - j % 7) := by omega
   rw [this, Nat.pow_mul]
  rw [e7, e4] at ho
  rw [hfull, if_pos rfl, hch, hd, h4, <- ho, top_or _ (by simpa using h7)]
  rfl
theorem arrsL_eq (l : List Int) (h : 0 < l.length) : WB l = Xu l ((l.length + 6) / 7) ++ l.flatMap XW := by
 obtain ⟨_, h2, _, h4⟩ := fold_state l l.length (Nat.le_refl _)
 rw [List.take_length] at h2 h4
 unfold WB WL
 rw [h2, h4 rfl h]
def Xm (base x : Int) : Int := (x - base) % 65536
def SortK (base : Int) (l : List Int) : Prop := ∀ i j (hij : i < j) (hj : j < l.length), Xm base (l[i]'(by omega)) <= Xm base l[j]
def Rng (l : List Int) : Prop := ∀ x ∈ l, 0 <= x /\ x <= 65535
structure Kept (base : Int) (l l' : List Int) : Prop where
 len : l'.length = l.length
 rng : Rng l'
 same : SortK base l -> l' = l
theorem Kept.refl {base : Int} {l : List Int} (h : Rng l) : Kept base l l := ⟨rfl, h, fun _ => rfl⟩
theorem Kept.trans {base : Int} {l l' l'' : List Int} (h : Kept base l l') (k : Kept base l' l'') : Kept base l l'' :=
 ⟨k.len.trans h.len, k.rng, fun hs => by have e := h.same hs; subst e; exact k.same hs⟩
theorem Kept.un {base : Int} {l l' : List Int} (hl : l'.length = l.length) (hr : Rng l') (hn : ¬ SortK base l) : Kept base l l' := ⟨hl, hr, fun h => absurd h hn⟩
theorem Rng.set {l : List Int} (h : Rng l) {i : Nat} {x : Int} (hx : 0 <= x /\ x <= 65535) : Rng (l.set i x) := fun y hy => by
 rcases List.mem_or_eq_of_mem_set hy with h1 | h1
 ·exact h y h1
 rw [h1]; exact hx
def swapL (l : List Int) (i j : Nat) (hi : i < l.length) (hj : j < l.length) : List Int := (l.set i l[j]).set j l[i]
theorem swapL_len {l : List Int} {i j : Nat} {hi : i < l.length} {hj : j < l.length} : (swapL l i j hi hj).length = l.length := by unfold swapL; rw [List.length_set, List.length_set]
theorem swapL_rng {l : List Int} (h : Rng l) {i j : Nat} {hi : i < l.length} {hj : j < l.length} : Rng (swapL l i j hi hj) := (h.set (h _ (List.getElem_mem hj))).set (h _ (List.getElem_mem hi))
def Y8 (I : Zh) (M : List Zt) (g c B : Nat) (base : Int) (l : List Int) (w : World) : Prop := St I (row 42 1 (.slice (some ⟨g, 0, none⟩) l.length c) l.length (flat Yp l) :: bk B 42 #[.int .u16 base] :: M) w
theorem St.rowCellSet16 {I : Zh} {M : List Zt} {w : World} {e s n c g : Nat} {xs : List Value} (h : St I (row e s (.slice (some ⟨g, 0, none⟩) n c) n xs :: M) w) (k : Nat) (v : Value) (h0 : 0 < xs.length) :
  St I (row e s (.slice (some ⟨g, 0, none⟩) n c) n (xs.set k v) :: M) (w.setCell ⟨g, k, none⟩ v) := by
 obtain ⟨g', cur, e1, _, hlc, hcm, hcs, hct, hs⟩ := h.rowBk h0
 injection e1 with e1
 injection e1 with e1
 subst e1
 exact (hs.set k v).bkRow hlc hcm (by rw [Array.size_setIfInBounds]; exact hcs) (by rw [Array.toList_setIfInBounds, List.take_set, hct])
theorem flat16_set (l : List Int) (k : Nat) (x : Int) (_hk : k < l.length) : (flat Yp l).set k (.int .u16 x) = flat Yp (l.set k x) := by
 have h : flat Yp l = l.map (fun x => Value.int .u16 x) := by
  clear _hk
  induction l with
  | nil => rfl
  | cons a r ih => show _ :: flat Yp r = _; rw [ih]; rfl
 have h2 : flat Yp (l.set k x) = (l.set k x).map (fun x => Value.int .u16 x) := by
  generalize l.set k x = m
  clear _hk h
  induction m with
  | nil => rfl
  | cons a r ih => show _ :: flat Yp r = _; rw [ih]; rfl
 rw [h, h2, List.map_set]
theorem Y8.set {I : Zh} {M : List Zt} {g c B : Nat} {base : Int} {l : List Int} {w : World} (h : Y8 I M g c B base l w) (k : Nat) (hk : k < l.length) (x : Int) : Y8 I M g c B base (l.set k x) (w.setCell ⟨g, k, none⟩ (.int .u16 x)) := by
 have hs := St.rowCellSet16 h k (.int .u16 x) (by rw [XK (s := 1) (fun _ => rfl)]; omega)
 rw [flat16_set l k x hk] at hs
 unfold Y8
 rw [List.length_set]
 exact hs
theorem Y8.cell {I : Zh} {M : List Zt} {g c B : Nat} {base : Int} {l : List Int} {w : World} (h : Y8 I M g c B base l w) (k : Nat) (hk : k < l.length) : w.cell? ⟨g, k, none⟩ = some (.int .u16 l[k]) /\ w.frozen? ⟨g, k, none⟩ = false /\ g < w.heap.size := by
 obtain ⟨g', cur, e1, hg, hlc, hcm, hcs, hct, hs⟩ := St.rowBk h (by rw [XK (s := 1) (fun _ => rfl)]; omega)
 injection e1 with e1
 injection e1 with e1
 subst e1
 have hb : ZO w g 42 cur := hs.head
 refine ⟨?_, hb.frozen k, hb.lt⟩
 rw [hb.cell k]
 have h2 := flat_at (s := 1) (f := Yp) (fun _ => rfl) l k 0 hk (by decide)
 rw [<- hct] at h2
 have h3 : cur[k]? = cur.toList[k]? := by simp
 rw [h3]
 simp only [Nat.mul_one, Nat.add_zero] at h2
 rw [List.getElem?_take, if_pos hk] at h2
 rw [h2]
 rfl
theorem Y8.base {I : Zh} {M : List Zt} {g c B : Nat} {base : Int} {l : List Int} {w : World} (h : Y8 I M g c B base l w) : w.cell? ⟨B, 0, none⟩ = some (.int .u16 base) := ((ZO.all (h.at 1 rfl)).1 0)
theorem Y8.cap {I : Zh} {M : List Zt} {g c B : Nat} {base : Int} {l : List Int} {w : World} (h : Y8 I M g c B base l w) : l.length <= c := (Yh (show World.ownsRow _ 0 42 1 (.slice (some ⟨g, 0, none⟩) l.length c) l.length _ from h.head)).2
set_option maxHeartbeats 1000000 in
theorem cmp65 (w : World) (B : Nat) (base a b : Int) (hB : w.cell? ⟨B, 0, none⟩ = some (.int .u16 base)) : Calls Try.prog 65 #[.int .u16 a, .int .u16 b, .pointer (some ⟨B, 0, none⟩)] w fun e w' => e = .returned (.int .i64 (Xm base a - Xm base b)) /\ w = w' := by
 have h1 : IntKind.u16.wrap (a - base) = Xm base a := Y9 _
 have h2 : IntKind.u16.wrap (b - base) = Xm base b := Y9 _
 have k1 : 0 <= Xm base a /\ Xm base a <= 65535 := by unfold Xm; omega
 have k2 : 0 <= Xm base b /\ Xm base b <= 65535 := by unfold Xm; omega
 obtain ⟨ka, hka⟩ : ∃ k, k = Xm base a := ⟨_, rfl⟩
 obtain ⟨kb, hkb⟩ : ∃ k, k = Xm base b := ⟨_, rfl⟩
 rw [<- hka] at h1 k1
 rw [<- hkb] at h2 k2
 have HK := VL (And.intro hka hkb)
 obtain ⟨k1, k3⟩ := k1
 obtain ⟨k2, k4⟩ := k2
 clear hka hkb
 go_enter Try.func65, Try.ntmps65
 go_wp2
 go_returns
 rw [<- HK.out.1, <- HK.out.2]
 exact ⟨rfl, rfl⟩
theorem wn {P : Program} {ops : Array Oper} {Q : Exit -> Act -> World -> Prop} {md : Region.Mode} {S : World -> Prop} (i : Nat) {oi : Oper} {fuel : Nat} {listed : Array Bool} {a : Act} {w : World} (hi : ops.toList[i]? = some oi)
  (hb : (Region.noSelect ops && (Region.free md ops listed i && (Region.ready md ops listed).contains i)) = true)
  (hQ : ∀ c a w, Q (.panic c) (a.put oi.dst undef) w -> Q (.panic c) a w) (hw : Region.wanted oi (yielded ops a.tmps) = false) (hS : S w)
  (h : wpAnyH P md ops Q S fuel (listed.setIfInBounds i true) (a.put oi.dst undef) w) : wpAnyH P md ops Q S (fuel + 1) listed a w := by
 simp only [Bool.and_eq_true] at hb
 exact wpAnyH_take (i := i) (by simpa using hi) hb.1 hb.2.1 hb.2.2 hQ (.inr ⟨hw, rfl⟩) hS h
theorem Y8.drew {I : Zh} {M : List Zt} {g c B : Nat} {base : Int} {l : List Int} {w : World} (h : Y8 I M g c B base l w) : Y8 I M g c B base l w.drew := St.drew h
def Does (I : Zh) (M : List Zt) (g c B : Nat) (base : Int) (l : List Int) : Ending -> World -> Prop := fun e w' => e = .returned (.tuple #[]) /\ ∃ l', Kept base l l' /\ Y8 I M g c B base l' w'
theorem cmpD (w : World) (B : Nat) (base a b d : Int) (hd : d = Xm base a - Xm base b) (hB : w.cell? ⟨B, 0, none⟩ = some (.int .u16 base)) : Calls Try.prog 65 #[.int .u16 a, .int .u16 b, .pointer (some ⟨B, 0, none⟩)] w fun e w' => e = .returned (.int .i64 d) /\ w = w' := by
 rw [hd]
 exact cmp65 w B base a b hB
set_option maxRecDepth 8000 in
set_option maxHeartbeats 8000000 in
theorem insertC (I : Zh) (M : List Zt) (w : World) (g c B n : Nat) (base : Int) (l : List Int) (a b : Nat) (hn : n = l.length) (hab0 : a <= b) (hb : b <= n) (hn1 : n <= 1000000) (hr : Rng l) (ZX : Y8 I M g c B base l w) :
  Calls Try.prog 73 #[.slice (some ⟨g, 0, none⟩) n c, .int .i64 a, .int .i64 b, .func (.func 65) #[] #[.pointer (some ⟨B, 0, none⟩)]] w (Does I M g c B base l) := by
 have HS := VL ZX
 have HR := VL hr
 have HN := VL hn
 have hcap := ZX.cap
 rw [<- hn] at hcap
 clear ZX hr hn
 have hab := hab0
 go_enter Try.func73, Try.ntmps73
 go_upto_region 1 with fail
 go_loopw [8] (fun iv wr => ∃ i : Nat, iv = .int .i64 i /\ a + 1 <= i /\ i <= b + 1 /\ Hid (∃ l1, Kept base l l1 /\ Y8 I M g c B base l1 wr)) (fun iv _ => b + 1 - (intOf iv).toNat)
 case atStart => exact ⟨a + 1, by go_num, by omega, by omega, VL ⟨l, .refl HR.out, HS.out⟩⟩
 case round =>
  obtain ⟨i, rfl, hi1, hi2, hh⟩ := hrel
  clear HS
  by_cases hib : i < b
  ·skip
   go_upto_region 4 with fail
   go_loopw [9] (fun jv wr => ∃ j : Nat, jv = .int .i64 j /\ a <= j /\ j <= i /\ Hid (∃ l1, Kept base l l1 /\ Y8 I M g c B base l1 wr)) (fun jv _ => (intOf jv).toNat)
   case atStart => exact ⟨i, rfl, by omega, by omega, hh⟩
   case round =>
    obtain ⟨j, rfl, hj1, hj2, hk⟩ := hrel
    clear hh
    obtain ⟨l1, hkp, hs⟩ := hk.out
    have hl1 : l1.length = n := by rw [hkp.len, HN.out]
    have HLN := VL hl1
    have HK := VL hkp
    have HS := VL hs
    clear hkp hs hk
    by_cases hja : j = a
    ·subst hja
     go_upto_region 4 with fail
     refine wp_region_held_drew (S := (fun _ => True)) (by kernel_rfl) (by (try dsimp only); all_goals trivial) (fun ZL => ?_)
     refine wh 0 rfl (by kernel_rfl) (fun _ _ _ h => h) rfl ‹_› (by intro w h;go_simp;try with_reducible rfl) ?_
     try go_frame
     refine wh 1 rfl (by kernel_rfl) (fun _ _ _ h => h) rfl ‹_› (by intro w h;go_simp;try with_reducible rfl) ?_
     try go_frame
     refine wh 2 rfl (by kernel_rfl) (fun _ _ _ h => h) rfl ‹_› (by intro w h;go_simp;try with_reducible rfl) ?_
     try go_frame
     refine wh 3 rfl (by kernel_rfl) (fun _ _ _ h => h) rfl ‹_› (by intro w h;go_simp;try with_reducible rfl) ?_
     try go_frame
     refine wn 4 rfl (by kernel_rfl) (fun _ _ _ h => h) rfl ‹_› ?_
     try go_frame
     refine wn 5 rfl (by kernel_rfl) (fun _ _ _ h => h) rfl ‹_› ?_
     try go_frame
     refine wn 6 rfl (by kernel_rfl) (fun _ _ _ h => h) rfl ‹_› ?_
     try go_frame
     refine wn 7 rfl (by kernel_rfl) (fun _ _ _ h => h) rfl ‹_› ?_
     try go_frame
     refine wn 8 rfl (by kernel_rfl) (fun _ _ _ h => h) rfl ‹_› ?_
     try go_frame
     refine wn 9 rfl (by kernel_rfl) (fun _ _ _ h => h) rfl ‹_› ?_
     try go_frame
     refine wn 10 rfl (by kernel_rfl) (fun _ _ _ h => h) rfl ‹_› ?_
     try go_frame
     refine wn 11 rfl (by kernel_rfl) (fun _ _ _ h => h) rfl ‹_› ?_
     try go_frame
     refine wn 12 rfl (by kernel_rfl) (fun _ _ _ h => h) rfl ‹_› ?_
     try go_frame
     refine wn 13 rfl (by kernel_rfl) (fun _ _ _ h => h) rfl ‹_› ?_
     try go_frame
     refine wn 14 rfl (by kernel_rfl) (fun _ _ _ h => h) rfl ‹_› ?_
     try go_frame
     refine wn 15 rfl (by kernel_rfl) (fun _ _ _ h => h) rfl ‹_› ?_
     try go_frame
     refine wh 16 rfl (by kernel_rfl) (fun _ _ _ h => h) rfl ‹_› (by intro w h;go_simp;try with_reducible rfl) ?_
     try go_frame
     refine wpAnyH_done (by kernel_rfl) ?_ _
     go_wp2
     go_roundw
     case rel => exact ⟨i + 1, by go_num, by omega, by omega, VL ⟨l1, HK.out, Y8.drew HS.out⟩⟩
     case measure => simp [intOf]; omega
    obtain ⟨k, hjk⟩ : ∃ k, j = k + 1 := ⟨j - 1, by omega⟩
    have hjk1 : (a : Int) < (j : Int) := by omega
    have hjk2 : (j : Int) - 1 = (k : Int) := by omega
    have hkn : k + 1 < n := by omega
    have hjn : (j : Int) < (n : Int) := by omega
    have hkn2 : (k : Int) < (n : Int) := by omega
    have hjw : IntKind.i64.wrap (j : Int) = (j : Int) := wrap_i64 (by omega) (by omega)
    have hkw : IntKind.i64.wrap (k : Int) = (k : Int) := wrap_i64 (by omega) (by omega)
    have YM := Y8.drew HS.out
    have hj9 : j < l1.length := by rw [HLN.out]; omega
    have hk9 : k < l1.length := by rw [HLN.out]; omega
    have hcx := (YM.cell j hj9).1
    have hcy := (YM.cell k hk9).1
    have hbs := YM.base
    obtain ⟨x, hx⟩ : ∃ x, x = l1[j] := ⟨_, rfl⟩
    obtain ⟨y, hy⟩ : ∃ y, y = l1[k] := ⟨_, rfl⟩
    rw [<- hx] at hcx
    rw [<- hy] at hcy
    have HXY := VL (And.intro hx hy)
    have HJK := VL hjk
    obtain ⟨d, hd⟩ : ∃ d, d = Xm base x - Xm base y := ⟨_, rfl⟩
    have HD := VL hd
    clear hx hy YM hjk hd
    go_upto_region 4 with fail
    refine wp_region_held_drew (S := (fun w' => w'.cell? ⟨g, j, none⟩ = some (.int .u16 x) /\ w'.cell? ⟨g, k, none⟩ = some (.int .u16 y))) (by kernel_rfl) (by (try dsimp only); exact ⟨hcx, hcy⟩) (fun ZL => ?_)
    refine wh 0 rfl (by kernel_rfl) (fun _ _ _ h => h) rfl ‹_› (by intro w h;go_simp;try with_reducible rfl) ?_
    try go_frame
    refine wh 1 rfl (by kernel_rfl) (fun _ _ _ h => h) rfl ‹_› (by intro w h;go_simp;try with_reducible rfl) ?_
    try go_frame
    refine wh 2 rfl (by kernel_rfl) (fun _ _ _ h => h) rfl ‹_› (by intro w h;go_simp;try with_reducible rfl) ?_
    try go_frame
    refine wh 3 rfl (by kernel_rfl) (fun _ _ _ h => h) rfl ‹_› (by intro w h;go_simp;try with_reducible rfl) ?_
    try go_frame
    refine wh 4 rfl (by kernel_rfl) (fun _ _ _ h => h) rfl ‹_› (by intro w h;go_simp;try with_reducible rfl) ?_
    try go_frame
    refine wh 5 rfl (by kernel_rfl) (fun _ _ _ h => h) rfl ‹_› (by intro w h;go_simp;try with_reducible rfl) ?_
    try go_frame
    refine wh 6 rfl (by kernel_rfl) (fun _ _ _ h => h) rfl ‹_› (by intro w h;go_simp;try with_reducible rfl) ?_
    try go_frame
    refine wh 7 rfl (by kernel_rfl) (fun _ _ _ h => h) rfl ‹_› (by intro w h;go_simp;try with_reducible rfl) ?_
    try go_frame
    refine wh 8 rfl (by kernel_rfl) (fun _ _ _ h => h) rfl ‹_› (by intro w h;go_simp;try with_reducible rfl) ?_
    try go_frame
    refine wh 9 rfl (by kernel_rfl) (fun _ _ _ h => h) rfl ‹_› (by intro w h;go_simp;try with_reducible rfl) ?_
    try go_frame
    refine wh 10 rfl (by kernel_rfl) (fun _ _ _ h => h) rfl ‹_› (by intro w h;go_simp;try with_reducible rfl) ?_
    try go_frame
    refine wh 11 rfl (by kernel_rfl) (fun _ _ _ h => h) rfl ‹_› (by intro w h;go_simp;try with_reducible rfl) ?_
    try go_frame
    refine wh 12 rfl (by kernel_rfl) (fun _ _ _ h => h) rfl ‹_› (by intro w h;go_simp;try with_reducible rfl) ?_
    try go_frame
    refine wh 13 rfl (by kernel_rfl) (fun _ _ _ h => h) rfl ‹_› (by intro w h;go_simp;try with_reducible rfl) ?_
    try go_frame
    refine wpAnyH_ready (rs := [14]) (by kernel_rfl) (by simp) ?_
    refine AllReadyH.cons (o := _) rfl (fun K hK => ?_) AllReadyH.nil
    go_simp
    go_at_call 65; refine (cmpD _ B base x y d HD.out hbs).mono ?_; rintro e w2 ⟨rfl, hw⟩; subst hw
    try clear ZL
    refine hK.out _ _ (by (try dsimp only); exact ⟨hcx, hcy⟩) (fun ZL => ?_)
    clear hK K
    try go_frame
    refine wh 15 rfl (by kernel_rfl) (fun _ _ _ h => h) rfl ‹_› (by intro w h;go_simp;try with_reducible rfl) ?_
    try go_frame
    refine wh 16 rfl (by kernel_rfl) (fun _ _ _ h => h) rfl ‹_› (by intro w h;go_simp;try with_reducible rfl) ?_
    try go_frame
    refine wpAnyH_done (by kernel_rfl) ?_ _
    clear hbs
    have HS1 := VL (Y8.drew HS.out)
    clear HS
    generalize World.drew wr = W1 at HS1 hcx hcy ZL ⊢
    clear hcx hcy ZL
    by_cases hdp : 0 <= d
    ·have hdb : (d < 0) = False := eq_false (by omega)
     have hdc : decide (d < 0) = false := decide_eq_false (by omega)
     go_wp2
     go_roundw
     case rel => exact ⟨i + 1, by go_num, by omega, by omega, VL ⟨l1, HK.out, HS1.out⟩⟩
     case measure => simp [intOf]; omega
    have hdn : d < 0 := by omega
    have hdb : decide (d < 0) = true := decide_eq_true hdn
    have hx9 := hj9
    have hy9 := hk9
    go_upto_region 6 with fail
    have YM := HS1.out
    obtain ⟨c1, c2, c3⟩ := YM.cell j hx9
    obtain ⟨c4, c5, c6⟩ := YM.cell k hy9
    obtain ⟨vx, hvx⟩ : ∃ v, v = l1[j] := ⟨_, rfl⟩
    obtain ⟨vy, hvy⟩ : ∃ v, v = l1[k] := ⟨_, rfl⟩
    have ZY := YM.set j hx9 l1[k]
    have YN := ZY.set k (by rw [List.length_set]; exact hy9) l1[j]
    have HS3 := VL (show Y8 I M g c B base (swapL l1 j k hx9 hy9) _ from Y8.drew YN)
    rw [<- hvx, <- hvy] at HS3
    rw [<- hvx] at c1
    rw [<- hvy] at c4 ZY
    obtain ⟨d1, d2, d3⟩ := ZY.cell k (by rw [List.length_set]; exact hy9)
    clear YM ZY YN hvx hvy
    
    go_region
    go_wp2
    go_roundw
    case rel =>
     refine ⟨k, by have := HJK.out; go_num, by have := HJK.out; omega, by have := HJK.out; omega, VL ⟨swapL l1 j k hx9 hy9, HK.out.trans (Kept.un swapL_len (swapL_rng HK.out.rng) (fun Yu => ?_)), HS3.out⟩⟩
     have h1 := Yu k j (by have := HJK.out; omega) hj9
     rw [<- HXY.out.1, <- HXY.out.2] at h1
     have h2 := HD.out
     omega
    case measure => have := HJK.out; simp [intOf]; omega
  have hf : ∃ l', Kept base l l' /\ Y8 I M g c B base l' wr := hh.out
  have HF := VL hf
  clear hf hh
  go_wp2
  go_returns
  exact ⟨rfl, HF.out⟩
def DoesU (I : Zh) (M : List Zt) (g c B : Nat) (base : Int) (n : Nat) : Ending -> World -> Prop := fun e w' => e = .returned (.tuple #[]) /\ ∃ l', (l'.length = n /\ Rng l') /\ Y8 I M g c B base l' w'
set_option maxRecDepth 8000 in
set_option maxHeartbeats 8000000 in
theorem swapRangeC (I : Zh) (M : List Zt) (w : World) (g c B n : Nat) (base : Int) (l : List Int) (a b k : Nat) (hn : l.length = n) (ha : a + k <= n) (hb : b + k <= n) (hn1 : n <= 1000000) (hr : Rng l) (ZX : Y8 I M g c B base l w) :
  Calls Try.prog 76 #[.slice (some ⟨g, 0, none⟩) n c, .int .i64 a, .int .i64 b, .int .i64 k, .func (.func 65) #[] #[.pointer (some ⟨B, 0, none⟩)]] w (DoesU I M g c B base n) := by
 have HS := VL ZX
 have HR := VL hr
 have HN := VL hn
 have hcap := ZX.cap
 rw [hn] at hcap
 clear ZX hr hn
 go_enter Try.func76, Try.ntmps76
 go_upto_region 1 with fail
 go_loopw [10] (fun iv wr => ∃ i : Nat, iv = .int .i64 i /\ i <= k /\ Hid (∃ l1, (l1.length = n /\ Rng l1) /\ Y8 I M g c B base l1 wr)) (fun iv _ => k - (intOf iv).toNat)
 case atStart => exact ⟨0, by go_num, by omega, VL ⟨l, ⟨HN.out, HR.out⟩, HS.out⟩⟩
 case round =>
  obtain ⟨i, rfl, hi, hh⟩ := hrel
  clear HS
  by_cases hik : i < k
  ·skip
   obtain ⟨l1, ⟨hl1, hr1⟩, hs⟩ := hh.out
   clear hh
   obtain ⟨x, hx⟩ : ∃ x, x = a + i := ⟨_, rfl⟩
   obtain ⟨y, hy⟩ : ∃ y, y = b + i := ⟨_, rfl⟩
   have hx9 : x < l1.length := by rw [hl1]; omega
   have hy9 : y < l1.length := by rw [hl1]; omega
   have hxa : (a : Int) + (i : Int) = (x : Int) := by omega
   have hyb : (b : Int) + (i : Int) = (y : Int) := by omega
   have hxn : (x : Int) < (n : Int) := by omega
   have hyn : (y : Int) < (n : Int) := by omega
   have hxw : IntKind.i64.wrap (x : Int) = (x : Int) := wrap_i64 (by omega) (by omega)
   have hyw : IntKind.i64.wrap (y : Int) = (y : Int) := wrap_i64 (by omega) (by omega)
   have HS1 := VL hs
   have HL1 := VL (And.intro hl1 hr1)
   clear hs hl1 hr1 hx hy
   go_upto_region 3 with fail
   have YM := HS1.out
   obtain ⟨c1, c2, c3⟩ := YM.cell x hx9
   obtain ⟨c4, c5, c6⟩ := YM.cell y hy9
   obtain ⟨vx, hvx⟩ : ∃ v, v = l1[x] := ⟨_, rfl⟩
   obtain ⟨vy, hvy⟩ : ∃ v, v = l1[y] := ⟨_, rfl⟩
   have ZY := YM.set x hx9 l1[y]
   have YN := ZY.set y (by rw [List.length_set]; exact hy9) l1[x]
   have HS3 := VL (show Y8 I M g c B base (swapL l1 x y hx9 hy9) _ from Y8.drew YN)
   rw [<- hvx, <- hvy] at HS3
   rw [<- hvx] at c1
   rw [<- hvy] at c4 ZY
   obtain ⟨d1, d2, d3⟩ := ZY.cell y (by rw [List.length_set]; exact hy9)
   clear YM ZY YN hvx hvy
   
   go_region
   go_wp2
   go_roundw
   case rel => exact ⟨i + 1, by go_num, by omega, VL ⟨swapL l1 x y hx9 hy9, ⟨swapL_len.trans HL1.out.1, swapL_rng HL1.out.2⟩, HS3.out⟩⟩
   case measure => simp [intOf]; omega
  have hf : ∃ l', (l'.length = n /\ Rng l') /\ Y8 I M g c B base l' wr := hh.out
  have HF := VL hf
  clear hf hh
  go_wp2
  go_returns
  exact ⟨rfl, HF.out⟩
set_option maxRecDepth 8000 in
set_option maxHeartbeats 8000000 in
theorem rotateC (I : Zh) (M : List Zt) (w : World) (g c B n : Nat) (base : Int) (l : List Int) (a m b : Nat) (hn : l.length = n) (ham : a < m) (hmb : m < b) (hb : b <= n) (hn1 : n <= 1000000) (hr : Rng l) (ZX : Y8 I M g c B base l w) :
  Calls Try.prog 75 #[.slice (some ⟨g, 0, none⟩) n c, .int .i64 a, .int .i64 m, .int .i64 b, .func (.func 65) #[] #[.pointer (some ⟨B, 0, none⟩)]] w (DoesU I M g c B base n) := by
 have HS := VL ZX
 have HR := VL hr
 have HN := VL hn
 clear ZX hr hn
 go_enter Try.func75, Try.ntmps75
 go_upto_region 2 with fail
 go_loopw [10, 11] (fun iv jv wr => ∃ i j : Nat, iv = .int .i64 i /\ jv = .int .i64 j /\ 1 <= i /\ 1 <= j /\ i <= m /\ m + j <= n /\ Hid (∃ l1, (l1.length = n /\ Rng l1) /\ Y8 I M g c B base l1 wr)) (fun iv jv _ => (intOf iv).toNat + (intOf jv).toNat)
 case atStart => exact ⟨m - a, b - m, by go_num, by go_num, by omega, by omega, by omega, by omega, VL ⟨l, ⟨HN.out, HR.out⟩, HS.out⟩⟩
 case round =>
  obtain ⟨i, j, rfl, rfl, hi, hj, him, hmj, hh⟩ := hrel
  clear HS
  obtain ⟨l1, ⟨hl1, hr1⟩, hs⟩ := hh.out
  clear hh
  obtain ⟨p, hp⟩ : ∃ p, p = m - i := ⟨_, rfl⟩
  have hpi : (m : Int) - (i : Int) = (p : Int) := by omega
  rcases Nat.lt_trichotomy i j with hij | hij | hij
  ·obtain ⟨q, hq⟩ : ∃ q, q = m + j - i := ⟨_, rfl⟩
   have hqi : (m : Int) + (j : Int) - (i : Int) = (q : Int) := by omega
   obtain ⟨j2, hj2⟩ : ∃ j2, j2 = j - i := ⟨_, rfl⟩
   have hji : (j : Int) - (i : Int) = (j2 : Int) := by omega
   have HC := VL (swapRangeC I M wr g c B n base l1 p q i hl1 (by omega) (by omega) hn1 hr1 hs)
   have hne : ((i : Int) != (j : Int)) = true := by rw [bne_iff_ne]; omega
   have HQ := VL (And.intro hp (And.intro hq hj2))
   clear hs hl1 hr1 hp hq hj2
   go_wp2_with fail
   go_at_call 76
   refine HC.out.mono ?_
   clear HC
   rintro e w2 ⟨rfl, hf⟩
   have HF := VL hf
   clear hf
   go_wp2
   go_roundw
   case rel => exact ⟨i, j2, rfl, by go_num, hi, by have := HQ.out; omega, him, by have := HQ.out; omega, HF⟩
   case measure => have := HQ.out; simp [intOf]; omega
  ·subst hij
   have HC := VL (swapRangeC I M wr g c B n base l1 p m i hl1 (by omega) (by omega) hn1 hr1 hs)
   clear hs hl1 hr1 hp
   go_wp2_with fail
   go_at_call 76
   refine HC.out.mono ?_
   clear HC
   rintro e w2 ⟨rfl, hf⟩
   have HF := VL hf
   clear hf
   go_wp2
   go_returns
   exact ⟨rfl, HF.out⟩
  obtain ⟨j2, hj2⟩ : ∃ j2, j2 = i - j := ⟨_, rfl⟩
  have hji : (i : Int) - (j : Int) = (j2 : Int) := by omega
  have HC := VL (swapRangeC I M wr g c B n base l1 p m j hl1 (by omega) (by omega) hn1 hr1 hs)
  have hne : ((i : Int) != (j : Int)) = true := by rw [bne_iff_ne]; omega
  have HQ := VL (And.intro hp hj2)
  clear hs hl1 hr1 hp hj2
  go_wp2_with fail
  go_at_call 76
  refine HC.out.mono ?_
  clear HC
  rintro e w2 ⟨rfl, hf⟩
  have HF := VL hf
  clear hf
  go_wp2
  go_roundw
  case rel => exact ⟨j2, j, by go_num, rfl, by have := HQ.out; omega, hj, by have := HQ.out; omega, hmj, HF⟩
  case measure => have := HQ.out; simp [intOf]; omega
end Go.Proofs.Ytddopbbmgpnjjaa
