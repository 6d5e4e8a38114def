/- part. -/
import Derived.Test.YtddopbbmgpnjjaaZT23
namespace Go.Proofs.Ytddopbbmgpnjjaa
set_option linter.unusedSimpArgs false
open Go.RowKit
def bitB (m : Int) (i : Nat) : Bool := m.toNat.testBit i
def expK (s m : Int) (k : Nat) : List Int := s :: ((List.range k).filter (bitB m)).map (fun (i : Nat) => (s + (i : Int) + 1) % 65536)
theorem expK_succ (s m : Int) (k : Nat) : expK s m (k + 1) = if bitB m k then expK s m k ++ [(s + (k : Int) + 1) % 65536] else expK s m k := by
 unfold expK
 rw [List.range_succ, List.filter_append]
 cases h : bitB m k <;> simp [h]
theorem expK_len (s m : Int) (k : Nat) : (expK s m k).length <= k + 1 := by
 unfold expK
 rw [List.length_cons, List.length_map]
 have := List.length_filter_le (bitB m) (List.range k)
 rw [List.length_range] at this
 omega
theorem expK_rng {s m : Int} (hs : 0 <= s /\ s <= 65535) (k : Nat) : Rng (expK s m k) := by
 intro x hx
 unfold expK at hx
 rcases List.mem_cons.1 hx with rfl | hx
 ·exact hs
 obtain ⟨i, _, rfl⟩ := List.mem_map.1 hx
 omega
theorem bit_test {m : Int} (h0 : 0 <= m) (h1 : m <= 65535) (k : Nat) : bits BinOp.and IntKind.u16 (m / 2 ^ k) 1 = if bitB m k then 1 else 0 := by
 obtain ⟨x, rfl⟩ := Int.eq_ofNat_of_zero_le h0
 have e1 : ((x : Int) / 2 ^ k) = ((x / 2 ^ k : Nat) : Int) := by simp
 have hx : x / 2 ^ k < 65536 := by
  have := Nat.div_le_self x (2 ^ k)
  omega
 rw [e1]
 unfold bitB
 rw [Int.toNat_natCast, Nat.testBit_eq_decide_div_mod_eq]
 generalize x / 2 ^ k = y at hx
 have e2 : (BitVec.ofInt 16 (y : Int)).toNat = y := by rw [BitVec.ofInt_natCast, BitVec.toNat_ofNat]; exact Nat.mod_eq_of_lt (by omega)
 show IntKind.u16.wrap ((BitVec.ofInt 16 (y : Int) &&& BitVec.ofInt 16 (1 : Int)).toNat : Int) = _
 rw [BitVec.toNat_and, e2, show (BitVec.ofInt 16 (1 : Int)).toNat = 2 ^ 1 - 1 from rfl, Nat.and_two_pow_sub_one_eq_mod, Y9]
 have h2 : y % 2 = 0 \/ y % 2 = 1 := by omega
 rcases h2 with h2 | h2 <;> simp [h2]
theorem mask_bit (s : Int) (r : List Int) (i : Nat) (_hi : i < 16) : bitB (XL s r) i = r.any (fun x => Y7 s x && decide ((dst s x).toNat = i)) := by
 unfold XL
 suffices h : ∀ (r : List Int) (m : Int), 0 <= m /\ m <= 65535 -> bitB (r.foldl (fun m x => if Y7 s x then VE s x m else m) m) i = (bitB m i || r.any (fun x => Y7 s x && decide ((dst s x).toNat = i))) by
  rw [h r 0 (by decide)]
  simp [bitB]
 intro r
 induction r with
 | nil => intro m _; simp
 | cons x t ih =>
  intro m hm
  rw [List.foldl_cons, List.any_cons]
  cases hn : Y7 s x
  ·simp only [Bool.false_eq_true, if_false, Bool.false_and, Bool.false_or]
   exact ih m hm
  simp only [if_true, Bool.true_and]
  have hb : 0 <= VE s x m /\ VE s x m <= 65535 := X3 _ _ _ rfl
  rw [ih _ hb]
  have h1 := dst_ok s x
  unfold Y7 at hn
  simp only [decide_eq_true_eq] at hn
  obtain ⟨e, he⟩ : ∃ e : Nat, e = (dst s x).toNat := ⟨_, rfl⟩
  have h2 : 2 ^ e < 65536 := by
   have : 2 ^ e <= 2 ^ 15 := Nat.pow_le_pow_right (by decide) (by omega)
   omega
  have e3 : VE s x m = ((m.toNat ||| 2 ^ e : Nat) : Int) := by
   unfold VE
   rw [<- he]
   have h3 : ((2 : Int) ^ e) = ((2 ^ e : Nat) : Int) := by simp
   rw [h3, Y9, show ((2 ^ e : Nat) : Int) % 65536 = ((2 ^ e : Nat) : Int) from (by generalize (2 ^ e : Nat) = p at h2; omega)]
   have := or_u16 m.toNat (2 ^ e) (by omega) h2
   rwa [show ((m.toNat : Nat) : Int) = m by omega] at this
  have e4 : bitB (VE s x m) i = (bitB m i || decide (e = i)) := by
   rw [e3]
   unfold bitB
   rw [Int.toNat_natCast, Nat.testBit_or, Nat.testBit_two_pow]
  rw [e4, <- he, Bool.or_assoc]
theorem srt_filter : ∀ (n : Nat) (D : List Nat) (P : Nat -> Bool), D.Pairwise (· < ·) -> (∀ x ∈ D, x < n) -> (∀ i, i < n -> (P i = true ↔ i ∈ D)) -> (List.range n).filter P = D
 | 0, D, P, _, hl, _ => by
  cases D with
  | nil => rfl
  | cons a t => exact absurd (hl a (by simp)) (Nat.not_lt_zero _)
 | n + 1, D, P, hp, hl, hP => by
  rw [List.range_succ, List.filter_append]
  cases h : P n
  ·have hn : n ∉ D := fun hm => by rw [(hP n (by omega)).2 hm] at h; cases h
   rw [srt_filter n D P hp (fun x hx => by
    have := hl x hx
    rcases Nat.lt_or_ge x n with h1 | h1
    ·exact h1
    exact absurd ((show x = n by omega) ▸ hx) hn) (fun i hi => hP i (by omega))]
   simp [h]
  have hn : n ∈ D := (hP n (by omega)).1 h
  rcases List.eq_nil_or_concat D with rfl | ⟨D', d, rfl⟩
  ·cases hn
  rw [List.concat_eq_append] at hp hl hP hn ⊢
  rw [List.pairwise_append] at hp
  have hd : d = n := by
   rcases List.mem_append.1 hn with h1 | h1
   ·have h2 := hp.2.2 n h1 d (by simp)
    have h3 := hl d (by simp)
    omega
   exact (List.mem_singleton.1 h1).symm
  subst hd
  rw [srt_filter d D' P hp.1 (fun x hx => hp.2.2 x hx d (by simp)) (fun i hi => by
   rw [hP i (by omega), List.mem_append, List.mem_singleton]
   exact ⟨fun h => h.resolve_right (by omega), .inl⟩)]
  simp [h]
theorem filter_pre {α : Type} (p : α -> Bool) (r : List α) (m : Nat) (hp : ∀ j (h : j < r.length), p r[j] = decide (j < m)) : r.filter p = r.take m := by
 conv => lhs; rw [<- List.take_append_drop m r]
 rw [List.filter_append]
 have h1 : (r.take m).filter p = r.take m := by
  rw [List.filter_eq_self]
  intro y hy
  obtain ⟨j, hj, rfl⟩ := List.getElem_of_mem hy
  rw [List.length_take] at hj
  rw [List.getElem_take, hp j (by omega)]
  exact decide_eq_true (by omega)
 have h2 : (r.drop m).filter p = [] := by
  rw [List.filter_eq_nil_iff]
  intro y hy
  obtain ⟨j, hj, rfl⟩ := List.getElem_of_mem hy
  rw [List.length_drop] at hj
  rw [List.getElem_drop, hp (m + j) (by omega)]
  simp
 rw [h1, h2, List.append_nil]
theorem exp_piece {l : List Int} (h : Ord l) (hr : Rng l) (c : Nat) (hc : c < l.length) (c' : Nat) (h1 : c < c') (h2 : c' <= l.length) (hn : ∀ k (hk : k < l.length), c < k -> Y7 l[c] l[k] = decide (k < c')) :
  expK l[c] (XL l[c] (l.drop (c + 1))) 16 = (l.drop c).take (c' - c) := by
 have hf : (l.drop (c + 1)).filter (Y7 l[c]) = (l.drop (c + 1)).take (c' - (c + 1)) := filter_pre _ _ _ (fun j hj => by
  rw [List.length_drop] at hj
  rw [List.getElem_drop, hn _ (by omega) (by omega)]
  congr 1
  exact propext ⟨fun _ => by omega, fun _ => by omega⟩)
 have hd : ∀ k (hk : k < l.length), c < k -> (dst l[c] l[k] : Int) = We l k - We l c - 1 := fun k hk hck => by
  have h3 := VI h c (k - c - 1) (by omega)
  rw [show c + (k - c - 1) + 1 = k by omega] at h3
  have e1 : l.getD c 0 = l[c] := by rw [List.getD_eq_getElem?_getD, List.getElem?_eq_getElem hc]; rfl
  have e2 : l.getD k 0 = l[k] := by rw [List.getD_eq_getElem?_getD, List.getElem?_eq_getElem hk]; rfl
  unfold dst
  unfold We at h3 ⊢
  rw [e1, e2] at h3 ⊢
  omega
 have hD : (List.range 16).filter (bitB (XL l[c] (l.drop (c + 1)))) = ((l.drop (c + 1)).take (c' - (c + 1))).map (fun x => (dst l[c] x).toNat) := by
  refine srt_filter 16 _ _ ?_ ?_ ?_
  ·rw [List.pairwise_map, List.pairwise_iff_getElem]
   intro i j hi hj hij
   rw [List.length_take, List.length_drop] at hi hj
   rw [List.getElem_take, List.getElem_take, List.getElem_drop, List.getElem_drop, hd _ (by omega) (by omega), hd _ (by omega) (by omega)]
   have h3 := VI h (c + 1 + i) (j - i - 1) (by omega)
   rw [show c + 1 + i + (j - i - 1) + 1 = c + 1 + j by omega] at h3
   have h4 := VI h c i (by omega)
   rw [show c + i + 1 = c + 1 + i by omega] at h4
   omega
  ·intro x hx
   obtain ⟨y, hy, rfl⟩ := List.mem_map.1 hx
   rw [<- hf, List.mem_filter] at hy
   have h3 := hy.2
   unfold Y7 at h3
   simp only [decide_eq_true_eq] at h3
   have := dst_ok l[c] y
   omega
  intro i hi
  rw [mask_bit _ _ _ hi, List.any_eq_true, <- hf, List.mem_map]
  constructor
  ·rintro ⟨y, hy, h3⟩
   rw [Bool.and_eq_true, decide_eq_true_eq] at h3
   exact ⟨y, List.mem_filter.2 ⟨hy, h3.1⟩, h3.2⟩
  rintro ⟨y, hy, h3⟩
  rw [List.mem_filter] at hy
  exact ⟨y, hy.1, by rw [Bool.and_eq_true, decide_eq_true_eq]; exact ⟨hy.2, h3⟩⟩
 unfold expK
 rw [hD, List.map_map]
 have e0 : (l.drop c).take (c' - c) = l[c] :: (l.drop (c + 1)).take (c' - (c + 1)) := by
  rw [List.drop_eq_getElem_cons hc, show c' - c = (c' - (c + 1)) + 1 by omega, List.take_succ_cons]
 rw [e0]
 congr 1
 conv => rhs; rw [<- List.map_id ((l.drop (c + 1)).take (c' - (c + 1)))]
 refine List.map_congr_left (fun x hx => ?_)
 have hm : x ∈ l := List.mem_of_mem_drop (List.mem_of_mem_take hx)
 have h3 := hr x hm
 have h4 := hr l[c] (List.getElem_mem hc)
 have h5 := dst_ok l[c] x
 show (l[c] + (((dst l[c] x).toNat : Nat) : Int) + 1) % 65536 = x
 rw [show (((dst l[c] x).toNat : Nat) : Int) = dst l[c] x by omega]
 unfold dst
 omega
theorem pieces_exp {l : List Int} (h : Ord l) (hr : Rng l) : ∀ (n c : Nat), l.length - c <= n -> c <= l.length -> (XA (l.drop c)).flatMap (fun x => expK x.1 x.2 16) = l.drop c
 | 0, c, hn, hc => by
  rw [List.drop_eq_nil_of_le (by omega), XA]
  rfl
 | n + 1, c, hn, hc => by
  rcases Nat.lt_or_ge c l.length with h1 | h1
  ·obtain ⟨c', h2, h3, hf, hN⟩ := far_cut h c h1
   have e1 : XA (l.drop c) = (l[c], XL l[c] (l.drop (c + 1))) :: XA (l.drop c') := by
    rw [List.drop_eq_getElem_cons h1, XA, hf]
   rw [e1, List.flatMap_cons, pieces_exp h hr n c' (by omega) h3]
   show expK l[c] (XL l[c] (l.drop (c + 1))) 16 ++ l.drop c' = _
   rw [exp_piece h hr c h1 c' h2 h3 hN]
   have e2 : l.drop c' = (l.drop c).drop (c' - c) := by rw [List.drop_drop, show c + (c' - c) = c' by omega]
   rw [e2, List.take_append_drop]
  rw [List.drop_eq_nil_of_le h1, XA]
  rfl
theorem pieces_back {l : List Int} (h : Ord l) (hr : Rng l) : (XA l).flatMap (fun x => expK x.1 x.2 16) = l := by
 have := pieces_exp h hr l.length 0 (by omega) (by omega)
 rwa [List.drop_zero] at this
theorem pieces_rng : ∀ (n : Nat) (l : List Int), l.length <= n -> Rng l -> ∀ x ∈ XA l, (0 <= x.1 /\ x.1 <= 65535) /\ (0 <= x.2 /\ x.2 <= 65535)
 | _, [], _, _ => by rw [XA]; intro x hx; cases hx
 | n, s :: r, hn, hr => by
  rw [XA]
  intro x hx
  rcases List.mem_cons.1 hx with rfl | hx
  ·exact ⟨hr s (by simp), maskL_ok s r⟩
  cases n with
  | zero => simp at hn
  | succ n =>
   refine pieces_rng n (X0 s r) ?_ (fun y hy => hr y (List.mem_cons_of_mem _ (List.mem_filter.1 hy).1)) x hx
   have := farL_le s r
   simp at hn
   omega
theorem ord_sort {l : List Int} (h : Ord l) (h0 : 0 < l.length) : SortK l[0] l := by
 intro i j hij hj
 have h1 := VI h i (j - i - 1) (by omega)
 rw [show i + (j - i - 1) + 1 = j by omega] at h1
 have e0 : l.getD 0 0 = l[0] := by rw [List.getD_eq_getElem?_getD, List.getElem?_eq_getElem h0]; rfl
 have e1 : l.getD i 0 = l[i]'(by omega) := by rw [List.getD_eq_getElem?_getD, List.getElem?_eq_getElem (by omega)]; rfl
 have e2 : l.getD j 0 = l[j] := by rw [List.getD_eq_getElem?_getD, List.getElem?_eq_getElem hj]; rfl
 unfold Xm
 unfold We at h1
 rw [e0, e1, e2] at h1
 omega
theorem exp_num {s : Int} {k : Nat} (_h0 : 0 <= s) (_h1 : s <= 65535) (_hk : k < 16) : IntKind.u16.wrap (IntKind.u16.wrap (s + (k : Int)) + 1) = (s + (k : Int) + 1) % 65536 := by
 rw [Y9, Y9]
 omega
theorem row_first {l : List Int} {cs : Array Value} {n : Nat} (h : cs.toList.take n = flat Yp l) (h0 : 0 < l.length) : cs[0]? = some (.int .u16 l[0]) := by
 cases l with
 | nil => cases h0
 | cons a t =>
  have h1 := congrArg (fun z : List Value => z[0]?) h
  simp only [flat, List.cons_append, List.nil_append, List.getElem?_cons_zero] at h1
  rw [List.getElem?_take] at h1
  split at h1
  ·rw [<- Array.getElem?_toList]; exact h1
  cases h1
theorem rdPc {r a b : RS} {x n : Int} {y : Int × Int} {t : List UInt8} (hy : (0 <= y.1 /\ y.1 <= 65535) /\ (0 <= y.2 /\ y.2 <= 65535)) (hr : r = (XJ y ++ t, false)) (h1 : Rd2 r x a) (h2 : Rd2 a n b) : y = (x, n) /\ b = (t, false) := by
 obtain ⟨s, q⟩ := y
 simp only at hy
 have e0 : XJ (s, q) ++ t = Zi s ++ (Zi q ++ t) := by simp [XJ]
 rw [e0] at hr
 obtain ⟨a1, hr⟩ := WN h1 hy.1 hr
 obtain ⟨a2, hr6⟩ := WN h2 hy.2 hr
 rw [a1, a2]
 exact ⟨rfl, hr6⟩
theorem bit_test64 {m : Int} (h0 : 0 <= m) (h1 : m <= 65535) (k : Nat) : bits BinOp.and IntKind.i64 (m / 2 ^ k) 1 = if bitB m k then 1 else 0 := by
 obtain ⟨x, rfl⟩ := Int.eq_ofNat_of_zero_le h0
 have e1 : ((x : Int) / 2 ^ k) = ((x / 2 ^ k : Nat) : Int) := by simp
 have hx : x / 2 ^ k < 65536 := by
  have := Nat.div_le_self x (2 ^ k)
  omega
 rw [e1]
 unfold bitB
 rw [Int.toNat_natCast, Nat.testBit_eq_decide_div_mod_eq]
 generalize x / 2 ^ k = y at hx
 have e2 : (BitVec.ofInt 64 (y : Int)).toNat = y := by rw [BitVec.ofInt_natCast, BitVec.toNat_ofNat]; exact Nat.mod_eq_of_lt (by omega)
 show IntKind.i64.wrap ((BitVec.ofInt 64 (y : Int) &&& BitVec.ofInt 64 (1 : Int)).toNat : Int) = _
 rw [BitVec.toNat_and, e2, show (BitVec.ofInt 64 (1 : Int)).toNat = 2 ^ 1 - 1 from rfl, Nat.and_two_pow_sub_one_eq_mod, wrap_i64 (by omega) (by omega)]
 have h2 : y % 2 = 0 \/ y % 2 = 1 := by omega
 rcases h2 with h2 | h2 <;> simp [h2]
set_option maxRecDepth 100000 in
set_option maxHeartbeats 20000000 in
theorem ref5 (I : Zh) (M : List Zt) (w : World) (g o c : Nat) (bs : List UInt8) (T : Pk -> Prop) (hB : Zq I (some ⟨g, o, none⟩) bs) (hc : bs.length <= c) (h4 : 4 <= bs.length) (hm : bs.length <= 262144) (hT : ∀ p, T p -> Good p /\ Y6 p /\ bs = ZV p) (hkb : Yl bs 1 1 = 205) (hlw : Yl bs 0 1 % 32 = 1) (h8 : 12 <= bs.length) (ZX : St I M w) :
  Calls Try.prog 23 #[.slice (some ⟨g, o, none⟩) bs.length c] w (WF I M T) := by
 obtain ⟨q2, y0, n, fs, hq2, HT, HB, ZY, hy0, hy1, hand, hlr0, hlr1, hkr0, hkr1, HKB, hn, hd⟩ := Xa hB hc h4 hT hkb hlw ZX
 have HN := VL hn
 rw [<- hn] at hc h4 hm ⊢
 rw [<- hn] at h8
 clear ZX hT hB hkb hlw hn
 go_enter Try.func23, Try.ntmps23
 go_upto_region 1 with fail
 rw [<- hq2]
 clear hq2
 generalize World.alloc w _ = W at ZY hy0 hy1 ⊢
 go_quiet (fail)
 rename_i nq
 have YN := ZY.drewN nq
 clear ZY hy0 hy1 hand
 generalize W.drewN nq = W1 at YN ⊢
 obtain ⟨q6, hq6⟩ : ∃ q, q = W1.heap.size := ⟨_, rfl⟩
 have Zf := YN.alloc 56 #[.int .i64 0, .int .u32 0, .int .u32 0, .int .u64 0, .int .u32 0, .int .u32 0, .int .u32 0, .slice none 0 0, .string ⟨#[]⟩, .slice none 0 0, .slice none 0 0, .int .u16 0, .int .u32 0, .int .u8 0, .slice none 0 0, .slice none 0 0]
 rw [<- hq6] at Zf
 clear YN
 go_upto_region 3 with fail
 rw [<- hq6]
 clear hq6
 generalize World.alloc W1 _ = W2 at Zf ⊢
 have HS := VL Zf
 clear Zf
 obtain ⟨hcA, hfA, hlA⟩ := ZO.all (HS.out.at 0 rfl)
 have HNO := VL (show True from trivial)
 have HC := XT I _ _ g o c bs (4) (HB.out) (by rw [<- HN.out]; exact hc) (by rw [<- HN.out]; omega) (by rw [<- HN.out]; omega) HS.out
 rw [<- HN.out] at HC
 obtain ⟨x1, hx⟩ : ∃ z, z = Yl bs (4) 4 := ⟨_, rfl⟩
 have hr := Ym bs (4)
 rw [<- hx] at HC hr
 obtain ⟨x1a, x1b⟩ := hr
 have HC := VL HC
 have Hx1 := VL hx
 clear hx
 go_wp2_with fail
 go_at_call 56
 refine HC.out.mono ?_
 clear HC
 rintro e w9 ⟨rfl, hw⟩
 subst hw
 have Zv := (HS.out.set 1 (.int .u32 x1))
 go_upto_region 35 with fail
 generalize World.setCell W2 _ _ = W3 at Zv ⊢
 clear HS hcA hfA hlA
 have HS := VL Zv
 clear Zv
 obtain ⟨hcA, hfA, hlA⟩ := ZO.all (HS.out.at 0 rfl)
 have HC := XT I _ _ g o c bs (8) (HB.out) (by rw [<- HN.out]; exact hc) (by rw [<- HN.out]; omega) (by rw [<- HN.out]; omega) HS.out
 rw [<- HN.out] at HC
 obtain ⟨x2, hx⟩ : ∃ z, z = Yl bs (8) 4 := ⟨_, rfl⟩
 have hr := Ym bs (8)
 rw [<- hx] at HC hr
 obtain ⟨x2a, x2b⟩ := hr
 have HC := VL HC
 have Hx2 := VL hx
 clear hx
 go_wp2_with fail
 go_at_call 56
 refine HC.out.mono ?_
 clear HC
 rintro e w9 ⟨rfl, hw⟩
 subst hw
 have Zv := (HS.out.set 2 (.int .u32 x2)).set 0 (.int .i64 5)
 go_upto_region 38 with fail
 generalize World.setCell (World.setCell W3 _ _) _ _ = W4 at Zv ⊢
 clear HS hcA hfA hlA
 have HS := VL Zv
 clear Zv
 have HF := VL (show ∀ p, T p -> (⟨5, x1, x2, 0, 0, 0, 0, [], ⟨#[]⟩, [], p.ZH, 0, 0, 0, [], []⟩ : Pk) = p /\ ((bs.drop 12, false) : RS) = ((XA p.ZH).flatMap XJ, false) /\ Ord p.ZH /\ Rng p.ZH from fun p hp => by
  obtain ⟨hg, hok, hbs⟩ := HT.out p hp
  obtain ⟨k1, k8, hr⟩ := Y5 hg hbs
  have hkk := XF hg hbs HKB.out.1 HKB.out.2
  have h7 : p.kind = 5 := by omega
  obtain ⟨h1, h2⟩ := shape5 hg h7
  have ho : Ord p.ZH := by
   have := hg.1
   unfold YF at this
   rcases this with h | h | h | h | h | h | h
   all_goals first | exact h.2.1 | (exfalso; omega)
  rw [h2] at hr
  obtain ⟨a1, hr⟩ := YY (Xn (by rw [<- HN.out]; omega)) hok.ZA hr
  obtain ⟨a2, hr⟩ := YY (Xn (by rw [<- HN.out]; omega)) hok.ZC hr
  have hrg := hok.ZH
  refine ⟨?_, hr, ho, hrg⟩
  rw [Hx1.out, Hx2.out, a1, a2]
  exact h1.symm)
 go_upto_region 39 with fail
 have Yu := HS.out.nil (e := 42) (size := 1)
 clear HS
 have HS := VL Yu
 clear Yu
 go_loopw [7] (fun av wr => ∃ (i : Nat) (L : List Int) (A : Option Addr) (cA : Nat), av = .int .i64 i /\ i <= n /\ 12 <= i /\ Hid (St I (row 42 1 (.slice A L.length cA) L.length (flat Yp L) :: bk q6 56 #[.int .i64 5, .int .u32 x1, .int .u32 x2, .int .u64 0, .int .u32 0, .int .u32 0, .int .u32 0, .slice none 0 0, .string ⟨#[]⟩, .slice none 0 0, .slice A L.length cA, .int .u16 0, .int .u32 0, .int .u8 0, .slice none 0 0, .slice none 0 0] :: bk q2 56 Z56 :: M) wr /\ L.length <= 17 * i /\ Rng L /\ ∀ p, T p -> ∃ dn t, XA p.ZH = dn ++ t /\ L = dn.flatMap (fun x => expK x.1 x.2 16) /\ ((bs.drop i, false) : RS) = (t.flatMap XJ, false))) (fun av _ => n - (intOf av).toNat)
 case atStart => exact ⟨12, [], none, 0, rfl, by omega, by omega, VL ⟨HS.out, by simp, (fun x hx => by cases hx), fun p hp => ⟨[], XA p.ZH, rfl, rfl, (HF.out p hp).2.1⟩⟩⟩
 case round =>
  obtain ⟨i, L, A, cA, rfl, hi, hi12, hh⟩ := hrel
  clear HS
  obtain ⟨hs, hlen, Yf, ht⟩ := hh.out
  clear hh
  have HS := VL hs
  have YZ := VL (And.intro hlen (And.intro Yf ht))
  have WE := VL (show L.length <= 4456448 by omega)
  clear hs hlen Yf ht
  by_cases Z0 : i + 4 <= n
  ·skip
   have VK : (i : Int) + 4 <= (n : Int) := by omega
   go_upto_region 41 with fail
   have hw2 : IntKind.i64.wrap ((i : Int) + 2) = (i : Int) + 2 := wrap_i64 (by omega) (by omega)
   have hw4 : IntKind.i64.wrap ((i : Int) + 4) = (i : Int) + 4 := wrap_i64 (by omega) (by omega)
   have hci : ¬ c = i := by omega
   have hci2 : ¬ c = i + 2 := by omega
   have ht2 : ((i : Int) + 2).toNat = i + 2 := by omega
   have ht4 : ((i : Int) + 4).toNat = i + 4 := by omega
   have hp2 : 0 <= (i : Int) + 2 := by omega
   have hp4 : 0 <= (i : Int) + 4 := by omega
   have hu2 : (i : Int) <= (i : Int) + 2 := by omega
   have hu4 : (i : Int) + 2 <= (i : Int) + 4 := by omega
   have hv2 : (i : Int) + 2 <= (c : Int) := by omega
   have hv4 : (i : Int) + 4 <= (c : Int) := by omega
   have hm2 : i + 2 - i = 2 := by omega
   have hm4 : i + 4 - (i + 2) = 2 := by omega
   refine YQ (S := fun _ => True) (by kernel_rfl) trivial (fun ZL => ?_)
   have YM := HS.out.drew
   clear HS
   generalize World.drew _ = W5 at YM ZL ⊢
   refine wt 0 4 rfl (by kernel_rfl) (fun _ _ _ h => h) rfl ‹_› (by intro w h;go_simp;try with_reducible rfl) ?_
   try go_frame
   refine wt 1 4 rfl (by kernel_rfl) (fun _ _ _ h => h) rfl ‹_› (by intro w h;go_simp;try with_reducible rfl) ?_
   try go_frame
   refine wt 2 3 rfl (by kernel_rfl) (fun _ _ _ h => h) rfl ‹_› (by intro w h;go_simp;try with_reducible rfl) ?_
   try go_frame
   refine wt 3 4 rfl (by kernel_rfl) (fun _ _ _ h => h) rfl ‹_› (by intro w h;go_simp;try with_reducible rfl) ?_
   try go_frame
   refine wt 4 5 rfl (by kernel_rfl) (fun _ _ _ h => h) rfl ‹_› (by intro w h;go_simp;try with_reducible rfl) ?_
   try go_frame
   refine wt 7 12 rfl (by kernel_rfl) (fun _ _ _ h => h) rfl ‹_› (by intro w h;go_simp;try with_reducible rfl) ?_
   try go_frame
   refine wt 8 9 rfl (by kernel_rfl) (fun _ _ _ h => h) rfl ‹_› (by intro w h;go_simp;try with_reducible rfl) ?_
   try go_frame
   refine wt 9 12 rfl (by kernel_rfl) (fun _ _ _ h => h) rfl ‹_› (by intro w h;go_simp;try with_reducible rfl) ?_
   try go_frame
   refine wt 10 11 rfl (by kernel_rfl) (fun _ _ _ h => h) rfl ‹_› (by intro w h;go_simp;try with_reducible rfl) ?_
   try go_frame
   refine wt 11 12 rfl (by kernel_rfl) (fun _ _ _ h => h) rfl ‹_› (by intro w h;go_simp;try with_reducible rfl) ?_
   try go_frame
   refine wt 12 13 rfl (by kernel_rfl) (fun _ _ _ h => h) rfl ‹_› (by intro w h;go_simp;try with_reducible rfl) ?_
   try go_frame
   clear hw2 hw4 hci hci2 ht2 ht4 hp2 hp4 hu2 hu4 hv2 hv4 hm2 hm4
   have HC := numAtC I _ _ g o c bs (i) 2 HB.out (by rw [<- HN.out]; exact hc) (by decide) (by decide) (by rw [<- HN.out]; omega) YM
   obtain ⟨s, hx⟩ : ∃ z, z = Yl bs (i) 2 := ⟨_, rfl⟩
   have hr := nmA_2 bs (i)
   rw [<- hx] at HC hr
   obtain ⟨sa, sb⟩ := hr
   have HC := VL HC
   have Hs := VL hx
   clear hx
   refine ZU (i := 5) (o := _) (by kernel_rfl) rfl (fun K hK => ?_)
   go_simp
   try clear ZL
   refine HC.out.mono ?_
   clear HC
   rintro e w9 ⟨rfl, hw⟩
   subst hw
   refine hK.out _ _ trivial (fun ZL => ?_)
   clear hK K
   try go_frame
   have hws : IntKind.u16.wrap s = s := by rw [Y9]; omega
   refine wt 6 15 rfl (by kernel_rfl) (fun _ _ _ h => h) rfl ‹_› (by intro w h;go_simp;try with_reducible rfl) ?_
   try go_frame
   clear hws
   have HC := numAtC I _ _ g o c bs (i + 2) 2 HB.out (by rw [<- HN.out]; exact hc) (by decide) (by decide) (by rw [<- HN.out]; omega) YM
   obtain ⟨m, hx⟩ : ∃ z, z = Yl bs (i + 2) 2 := ⟨_, rfl⟩
   have hr := nmA_2 bs (i + 2)
   rw [<- hx] at HC hr
   obtain ⟨ma, mb⟩ := hr
   have HC := VL HC
   have Hm := VL hx
   clear hx
   refine ZU (i := 13) (o := _) (by kernel_rfl) rfl (fun K hK => ?_)
   go_simp
   try clear ZL
   refine HC.out.mono ?_
   clear HC
   rintro e w9 ⟨rfl, hw⟩
   subst hw
   refine hK.out _ _ trivial (fun ZL => ?_)
   clear hK K
   try go_frame
   have hwm : IntKind.i64.wrap m = m := wrap_i64 (by omega) (by omega)
   refine wt 14 16 rfl (by kernel_rfl) (fun _ _ _ h => h) rfl ‹_› (by intro w h;go_simp;try with_reducible rfl) ?_
   try go_frame
   refine wt 15 16 rfl (by kernel_rfl) (fun _ _ _ h => h) rfl ‹_› (by intro w h;go_simp;try with_reducible rfl) ?_
   try go_frame
   clear hwm
   refine Yi (i := 16) (o := _) (by kernel_rfl) rfl (by kernel_rfl) (by kernel_rfl) (fun K hK => ?_)
   go_simp
   try clear ZL
   refine hK.out _ _ ?_
   clear hK K
   try go_frame
   have HS := VL YM
   clear YM
   obtain ⟨hcA, hfA, hlA⟩ := ZO.all (HS.out.at 1 rfl)
   go_upto_region 42 with fail
   have Yu := HS.out.Yw (P := Try.prog) (t := 44) (e := 42) (cs := #[.int .u16 s]) (n := 1) (size := 1) rfl (by decide) Try.underlying44 (by simp [Value.oneCell'])
   have XE := HS.out.grow (.cells #[.int .u16 s] 42)
   obtain ⟨i0, hi0, hz0, hz1, hz2⟩ := info_parts info42
   go_wp2_with (at_builtin; refine Zj _ rfl _ _ 44 44 rfl 0 42 i0 _ 1 2 Try.underlying44 hi0 hz0 hz1 hz2 rfl _ L.length (flat Yp L) rfl XE.head _ 1 _ rfl Yu (by have := WE.out; unfold maxLen; omega) (by have := WE.out; omega) (Nat.zero_le _) ?_)
   intro v' w5 Z9 Zr hat
   have Zb : w5.ownsRow 0 42 1 v' (L.length + 1) (flat Yp (L ++ [s])) := by rw [Z7]; exact Z9
   obtain ⟨A10, c10, rfl⟩ := ZW Zb
   have Zo := XE.grown Zr Zb (by simpa using hat)
   have HS6 := VL (show St I (row 42 1 (.slice A10 (L.length + 1) c10) (L.length + 1) (flat Yp (L ++ [s])) :: bk q6 56 #[.int .i64 5, .int .u32 x1, .int .u32 x2, .int .u64 0, .int .u32 0, .int .u32 0, .int .u32 0, .slice none 0 0, .string ⟨#[]⟩, .slice none 0 0, .slice A10 (L.length + 1) c10, .int .u16 0, .int .u32 0, .int .u8 0, .slice none 0 0, .slice none 0 0] :: bk q2 56 Z56 :: M) (w5.setCell ⟨q6, 10, none⟩ (.slice A10 (L.length + 1) c10)) from ((Zo.ZQ.set 10 (.slice A10 (L.length + 1) c10)).ZQ))
   clear HS
   obtain ⟨hcp, hfp, hlp⟩ := ZO.all (Zo.at 1 rfl)
   clear Zo Z9 Zb Zr hat Yu XE hcA hfA hlA
   go_upto_region 44 with fail
   clear hcp hfp hlp
   go_loopw [200] (fun kv wr' => ∃ (k : Nat) (A1 : Option Addr) (c1 : Nat) (L2 : List Int), kv = .int .i64 k /\ k <= 16 /\ Hid (L2 = L ++ expK s m k /\ St I (row 42 1 (.slice A1 L2.length c1) L2.length (flat Yp L2) :: bk q6 56 #[.int .i64 5, .int .u32 x1, .int .u32 x2, .int .u64 0, .int .u32 0, .int .u32 0, .int .u32 0, .slice none 0 0, .string ⟨#[]⟩, .slice none 0 0, .slice A1 L2.length c1, .int .u16 0, .int .u32 0, .int .u8 0, .slice none 0 0, .slice none 0 0] :: bk q2 56 Z56 :: M) wr')) (fun kv _ => 16 - (intOf kv).toNat)
   case atStart => exact ⟨0, A10, c10, L ++ [s], rfl, by omega, VL ⟨rfl, by rw [List.length_append]; exact HS6.out⟩⟩
   case round =>
    obtain ⟨k, A1, c1, L2, rfl, hk, hh⟩ := hrel
    obtain ⟨hL2, hs⟩ := hh.out
    have HS := VL hs
    have HL2 := VL hL2
    have HB2 := VL (show L2.length <= 4456480 by rw [hL2, List.length_append]; have := expK_len s m k; have := WE.out; omega)
    clear hh HS6 hs hL2
    obtain ⟨hcA, hfA, hlA⟩ := ZO.all (HS.out.at 1 rfl)
    by_cases hk16 : k < 16
    ·have hki : (k : Int) < 16 := by omega
     have Wo := bit_test64 ma mb k
     have hsk := exp_num sa sb hk16
     cases hbk : bitB m k
     ·have HBK := VL hbk
      rw [hbk] at Wo
      simp only [Bool.false_eq_true, if_false] at Wo
      clear hbk
      go_wp2
      go_roundw
      case rel => exact ⟨k + 1, A1, c1, L2, by go_num, by omega, VL ⟨by rw [expK_succ, HBK.out]; exact HL2.out, HS.out⟩⟩
      case measure => simp [intOf]; omega
     have HBK := VL hbk
     rw [hbk] at Wo
     simp only [if_true] at Wo
     clear hbk
     go_upto_region 47 with fail
     have Yu := HS.out.Yw (P := Try.prog) (t := 44) (e := 42) (cs := #[.int .u16 ((s + (k : Int) + 1) % 65536)]) (n := 1) (size := 1) rfl (by decide) Try.underlying44 (by simp [Value.oneCell'])
     have XE := HS.out.grow (.cells #[.int .u16 ((s + (k : Int) + 1) % 65536)] 42)
     obtain ⟨i0, hi0, hz0, hz1, hz2⟩ := info_parts info42
     go_wp2_with (at_builtin; refine Zj _ rfl _ _ 44 44 rfl 0 42 i0 _ 1 2 Try.underlying44 hi0 hz0 hz1 hz2 rfl _ L2.length (flat Yp L2) rfl XE.head _ 1 _ rfl Yu (by have := HB2.out; unfold maxLen; omega) (by have := HB2.out; omega) (Nat.zero_le _) ?_)
     intro v' w5 Z9 Zr hat
     have Zb : w5.ownsRow 0 42 1 v' (L2.length + 1) (flat Yp (L2 ++ [((s + (k : Int) + 1) % 65536)])) := by rw [Z7]; exact Z9
     obtain ⟨A10, c10, rfl⟩ := ZW Zb
     have Zo := XE.grown Zr Zb (by simpa using hat)
     have HS6 := VL (show St I (row 42 1 (.slice A10 (L2.length + 1) c10) (L2.length + 1) (flat Yp (L2 ++ [((s + (k : Int) + 1) % 65536)])) :: bk q6 56 #[.int .i64 5, .int .u32 x1, .int .u32 x2, .int .u64 0, .int .u32 0, .int .u32 0, .int .u32 0, .slice none 0 0, .string ⟨#[]⟩, .slice none 0 0, .slice A10 (L2.length + 1) c10, .int .u16 0, .int .u32 0, .int .u8 0, .slice none 0 0, .slice none 0 0] :: bk q2 56 Z56 :: M) (w5.setCell ⟨q6, 10, none⟩ (.slice A10 (L2.length + 1) c10)) from ((Zo.ZQ.set 10 (.slice A10 (L2.length + 1) c10)).ZQ))
     clear HS
     obtain ⟨hcp, hfp, hlp⟩ := ZO.all (Zo.at 1 rfl)
     clear Zo Z9 Zb Zr hat Yu XE hcA hfA hlA
     have hk9 : (k : Int) + 1 <= 16 := by omega
     go_wp2
     go_roundw
     case rel => exact ⟨k + 1, A10, c10, L2 ++ [(s + (k : Int) + 1) % 65536], by go_num, by omega, VL ⟨by rw [expK_succ, HBK.out, HL2.out, List.append_assoc]; rfl, by rw [List.length_append]; exact HS6.out⟩⟩
     case measure => simp [intOf]; omega
    obtain rfl : k = 16 := by omega
    clear hcA hfA hlA
    go_wp2
    go_roundw
    case rel =>
     refine ⟨i + 4, L2, A1, c1, by go_num, by omega, by omega, VL ⟨HS.out, ?_, ?_, ?_⟩⟩
     ·have h1 := YZ.out.1
      have h3 := expK_len s m 16
      rw [HL2.out, List.length_append]
      omega
     ·intro x hx
      rw [HL2.out] at hx
      rcases List.mem_append.1 hx with hx | hx
      ·exact YZ.out.2.1 x hx
      exact expK_rng ⟨sa, sb⟩ 16 x hx
     intro p hp
     obtain ⟨dn, t, h1, h0, h2⟩ := YZ.out.2.2 p hp
     have h3 := congrArg (fun r : RS => r.1.length) h2
     simp only [List.length_drop] at h3
     obtain ⟨y, t', rfl, hby⟩ := Xx (f := XJ) (l := t) (by have := HN.out; omega)
     rw [hby] at h2
     have hyr := pieces_rng _ _ (Nat.le_refl _) (HF.out p hp).2.2.2 y (by rw [h1]; simp)
     have g1 : Rd2 (bs.drop i, false) s (bs.drop (i + 2), false) := by rw [Hs.out]; exact rdA2 (by rw [<- HN.out]; omega)
     have g2 : Rd2 (bs.drop (i + 2), false) m (bs.drop (i + 4), false) := by rw [Hm.out]; exact rdA2 (by rw [<- HN.out]; omega)
     obtain ⟨he, h5⟩ := rdPc hyr h2 g1 g2
     exact ⟨dn ++ [y], t', by rw [h1]; simp, by rw [HL2.out, h0, List.flatMap_append, he]; simp, h5⟩
    case measure => simp [intOf]; omega
  have VK : ¬ (i : Int) + 4 <= (n : Int) := by omega
  have HE := VL (show ∀ p, T p -> p.ZH = L from fun p hp => by
   obtain ⟨dn, t, h1, h0, h2⟩ := YZ.out.2.2 p hp
   have h3 := congrArg (fun r : RS => r.1.length) h2
   simp only [List.length_drop] at h3
   have h4 : t = [] := fm_less (f := XJ) (s := 4) (fun x => by show (Zi x.1 ++ Zi x.2).length = 4; simp [Zz]) (by have := HN.out; omega)
   rw [h4, List.append_nil] at h1
   rw [h0, <- h1]
   exact (pieces_back (HF.out p hp).2.2.1 (HF.out p hp).2.2.2).symm)
  have HC := VL (sortedC I _ wr x1 x2 (L.headD 0) A L.length cA L rfl (by have := WE.out; omega) YZ.out.2.1 (fun h => by cases L with
   | nil => cases h
   | cons a r => rfl) HS.out)
  have hb : ZO wr q6 56 #[.int .i64 5, .int .u32 x1, .int .u32 x2, .int .u64 0, .int .u32 0, .int .u32 0, .int .u32 0, .slice none 0 0, .string ⟨#[]⟩, .slice none 0 0, .slice A L.length cA, .int .u16 0, .int .u32 0, .int .u8 0, .slice none 0 0, .slice none 0 0] := HS.out.at 1 rfl
  go_wp2_with (refine wpList_load_row rfl 56 (.tmp 6) rfl q6 rfl 56 _ (0, 0) _ hb hd rfl Zn ?_)
  go_at_call 57
  refine HC.out.mono ?_
  clear HC HS hb
  rintro e w9 ⟨rfl, l', hkp, hs9⟩
  have hln := hkp.len
  have hcap := (Yh (show World.ownsRow _ 0 42 1 (.slice A L.length cA) L.length _ from hs9.at 0 rfl)).2
  have hs10 := hs9.Ya
  have hb2 : ZO w9 q2 56 _ := hs10.at 0 rfl
  have hone : (#[.int .i64 5, .int .u32 x1, .int .u32 x2, .int .u64 0, .int .u32 0, .int .u32 0, .int .u32 0, .slice none 0 0, .string ⟨#[]⟩, .slice none 0 0, .slice A L.length cA, .int .u16 0, .int .u32 0, .int .u8 0, .slice none 0 0, .slice none 0 0] : Array Value).all (·.oneCell') = true := by kernel_rfl
  have HS6 := VL (hs10.setR #[.int .i64 5, .int .u32 x1, .int .u32 x2, .int .u64 0, .int .u32 0, .int .u32 0, .int .u32 0, .slice none 0 0, .string ⟨#[]⟩, .slice none 0 0, .slice A L.length cA, .int .u16 0, .int .u32 0, .int .u8 0, .slice none 0 0, .slice none 0 0])
  have HKP := VL (And.intro hkp (And.intro hln hcap))
  clear hs9 hs10 hkp hln hcap
  go_wp2_with (refine wpList_store_row rfl 56 (.tmp 2) (.tmp _) rfl q2 #[.int .i64 5, .int .u32 x1, .int .u32 x2, .int .u64 0, .int .u32 0, .int .u32 0, .int .u32 0, .slice none 0 0, .string ⟨#[]⟩, .slice none 0 0, .slice A L.length cA, .int .u16 0, .int .u32 0, .int .u8 0, .slice none 0 0, .slice none 0 0] rfl rfl 56 _ hb2 Zn rfl hone ?_)
  refine bodyPost_ret (Zp (p := 2) (u := 3) Try.results23 _ _ q2 56 _ (0, 0) _ rfl (HS6.out.at 0 rfl) hd rfl Zn) rfl ?_
  obtain ⟨J2, Zd, hs7, hcl⟩ := HS6.out.Ya.ZR
  refine ⟨J2, ⟨5, x1, x2, 0, 0, 0, 0, [], ⟨#[]⟩, [], l', 0, 0, 0, [], []⟩, ⟨YA, YA, .slice A L.length cA, YA, YA⟩, true, rfl, Zd, hs7.drop.drop, ⟨Y4.nil J2 _, Y4.nil J2 _, ⟨A, cA, by rw [HKP.out.2.1], hcl, by rw [HKP.out.2.1]; exact HKP.out.2.2⟩, Y4.nil J2 _, Y4.nil J2 _⟩, X5 ⟨x1a, x1b⟩ ⟨x2a, x2b⟩ (by simp) (by simp) (by simp) (by simp) (by simp) (by simp) HKP.out.1.rng (by simp) (by simp) (by simp) (by simp) (Nat.zero_le _) (Nat.zero_le _) (by have := HKP.out.2.1; have := WE.out; simp only []; omega) (Nat.zero_le _) (Nat.zero_le _) (Nat.zero_le _), fun p hp => ⟨rfl, ?_⟩⟩
  have h5 := (HF.out p hp).1
  have h6 := (HF.out p hp).2.2.1
  rw [HE.out p hp] at h5 h6
  have h7 : l' = L := by
   rcases Nat.eq_zero_or_pos L.length with hz | hz
   ·rw [List.eq_nil_of_length_eq_zero hz]
    exact List.eq_nil_of_length_eq_zero (by rw [HKP.out.2.1]; exact hz)
   refine HKP.out.1.same ?_
   have h8 := ord_sort h6 hz
   cases L with
   | nil => cases hz
   | cons a r => exact h8
  rw [h7]
  exact h5
end Go.Proofs.Ytddopbbmgpnjjaa
