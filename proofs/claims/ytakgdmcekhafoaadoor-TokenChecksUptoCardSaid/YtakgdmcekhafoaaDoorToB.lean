/- sha1.state.block. -/
import Derived.Test.YtakgdmcekhafoaaDoorToA
import Derived.Test.YtakgdmcekhafoaaDoorSl
import Derived.Deep.CutBlock
namespace Go.Proofs.YtakgdmcekhafoaaDoor
open Go.RowKit
set_option linter.unusedSimpArgs false

/-- bytes that are read, wherever they lie -/
def Reads (I : Img) (M : List Res) (g o : Nat) (bs : List UInt8) : Prop := ∀ (L : List Res) (w : World), St I (L ++ M) w → ∀ j (h : j < bs.length), w.cell? ⟨g, o + j, none⟩ = some (.int .u8 bs[j].toNat)
def bw (c : UInt8) : BitVec 32 := BitVec.ofNat 32 c.toNat
theorem wi_bw (c : UInt8) : wi (bw c) = c.toNat := by
  unfold wi bw
  rw [BitVec.toNat_ofNat, Nat.mod_eq_of_lt (by have := c.toNat_lt; omega)]
def be32 (a b c d : UInt8) : BitVec 32 := ((bw a <<< 24 ||| bw b <<< 16) ||| bw c <<< 8) ||| bw d
def wcells (l : List (BitVec 32)) : Array Value := (l.map wv ++ List.replicate (80 - l.length) (Value.int .u32 0)).toArray
structure S5 where
  a : BitVec 32
  b : BitVec 32
  c : BitVec 32
  d : BitVec 32
  e : BitVec 32
def st5 (s : S5) : Array Value := #[wv s.a, wv s.b, wv s.c, wv s.d, wv s.e]
theorem i64_wrap {x : Int} (h0 : -9223372036854775808 ≤ x) (h1 : x < 9223372036854775808) : IntKind.i64.wrap x = x := by
  rw [IntKind.wrap_i64]
  omega
/-- the first sixteen words -/
def firstW (bs : List UInt8) : Nat → List (BitVec 32)
  | 0 => []
  | k + 1 => firstW bs k ++ [be32 (bs.getD (4 * k) 0) (bs.getD (4 * k + 1) 0) (bs.getD (4 * k + 2) 0) (bs.getD (4 * k + 3) 0)]
theorem firstW_len (bs : List UInt8) : ∀ k, (firstW bs k).length = k
  | 0 => rfl
  | k + 1 => by simp [firstW, firstW_len bs k]
theorem zero98 : Tryd.zeroCells98 = wcells [] := by kernel_rfl
theorem wcells_set {l : List (BitVec 32)} {k : Nat} (hk : l.length = k) (h : k < 80) (x : BitVec 32) : (wcells l).setIfInBounds k (wv x) = wcells (l ++ [x]) := by
  unfold wcells
  apply Array.ext'
  rw [Array.toList_setIfInBounds]
  simp only []
  rw [List.set_append_right _ _ (by simp [hk])]
  obtain ⟨m, hm⟩ : ∃ m, 80 - k = m + 1 := ⟨80 - k - 1, by omega⟩
  simp only [List.length_map, hk, Nat.sub_self, hm, List.replicate_succ, List.set_cons_zero, List.length_append, List.length_singleton, List.map_append, List.map_cons, List.map_nil, List.append_assoc, List.singleton_append]
  rw [show 80 - (k + 1) = m by omega]
theorem wcells_free {l : List (BitVec 32)} {k : Nat} (hk : l.length = k) (h : k < 80) : (wcells l)[k]? = some (.int .u32 0) := by
  unfold wcells
  obtain ⟨m, hm⟩ : ∃ m, 80 - k = m + 1 := ⟨80 - k - 1, by omega⟩
  simp [List.getElem?_append_right, hk, hm, List.replicate_succ]
theorem wcells_at {l : List (BitVec 32)} {j : Nat} (h : j < l.length) : (wcells l)[j]? = some (wv l[j]) := by
  unfold wcells
  simp [List.getElem?_append_left, h]
theorem wrap_byte (a : UInt8) : IntKind.u32.wrap (a.toNat : Int) = wi (bw a) := by rw [← wi_bw, wrap_wi]
theorem wrap_shl (x : BitVec 32) (n : Nat) : IntKind.u32.wrap (wi x * ((2 ^ n : Nat) : Int)) = wi (x <<< n) := by rw [u32_mod, wi_shl]
theorem be32_wi (a b c d : UInt8) : bits .or .u32 (bits .or .u32 (bits .or .u32 (IntKind.u32.wrap (IntKind.u32.wrap (a.toNat : Int) * 16777216)) (IntKind.u32.wrap (IntKind.u32.wrap (b.toNat : Int) * 65536))) (IntKind.u32.wrap (IntKind.u32.wrap (c.toNat : Int) * 256))) (IntKind.u32.wrap (d.toNat : Int)) = wi (be32 a b c d) := by
  have e1 : IntKind.u32.wrap (wi (bw a) * 16777216) = wi (bw a <<< 24) := wrap_shl (bw a) 24
  have e2 : IntKind.u32.wrap (wi (bw b) * 65536) = wi (bw b <<< 16) := wrap_shl (bw b) 16
  have e3 : IntKind.u32.wrap (wi (bw c) * 256) = wi (bw c <<< 8) := wrap_shl (bw c) 8
  rw [wrap_byte, wrap_byte, wrap_byte, wrap_byte, e1, e2, e3, wi_or, wi_or, wi_or]
  rfl
def nextW (l : List (BitVec 32)) : BitVec 32 := rot 1 (((l.getD (l.length - 3) 0 ^^^ l.getD (l.length - 8) 0) ^^^ l.getD (l.length - 14) 0) ^^^ l.getD (l.length - 16) 0)
/-- the words, 16 and i -/
def wordsN (bs : List UInt8) : Nat → List (BitVec 32)
  | 0 => firstW bs 16
  | i + 1 => wordsN bs i ++ [nextW (wordsN bs i)]
theorem wordsN_len (bs : List UInt8) : ∀ i, (wordsN bs i).length = 16 + i
  | 0 => firstW_len bs 16
  | i + 1 => by simp [wordsN, wordsN_len bs i]; omega
theorem wcells_get {l : List (BitVec 32)} {j : Nat} (h : j < l.length) : (wcells l)[j]? = some (wv (l.getD j 0)) := by
  rw [wcells_at h]
  simp [h]
def fP (t : Nat) (b c d : BitVec 32) : BitVec 32 := if t < 20 then d ^^^ (b &&& (c ^^^ d)) else if t < 40 then (b ^^^ c) ^^^ d else if t < 60 then (b &&& c) ||| (d &&& (b ||| c)) else (b ^^^ c) ^^^ d
def kT (t : Nat) : BitVec 32 := if t < 20 then 1518500249#32 else if t < 40 then 1859775393#32 else if t < 60 then 2400959708#32 else 3395469782#32
def roundS (t : Nat) (x : BitVec 32) (s : S5) : S5 := ⟨rot 5 s.a + fP t s.b s.c s.d + s.e + kT t + x, s.a, rot 30 s.b, s.c, s.d⟩
def roundsN (ws : List (BitVec 32)) (s : S5) : Nat → S5
  | 0 => s
  | t + 1 => roundS t (ws.getD t 0) (roundsN ws s t)
theorem st5Keep {w : World} {hb : Nat} {s : S5} (h : Blk w hb 106 (st5 s)) : w.cell? ⟨hb, 0, none⟩ = some (wv s.a) ∧ w.cell? ⟨hb, 1, none⟩ = some (wv s.b) ∧ w.cell? ⟨hb, 2, none⟩ = some (wv s.c) ∧ w.cell? ⟨hb, 3, none⟩ = some (wv s.d) ∧ w.cell? ⟨hb, 4, none⟩ = some (wv s.e) := ⟨h.cell 0, h.cell 1, h.cell 2, h.cell 3, h.cell 4⟩
theorem info98 : (Tryd.prog.info? 98).map (·.size) = some 80 := by kernel_rfl
theorem wcells_size {l : List (BitVec 32)} (h : l.length ≤ 80) : (wcells l).size = 80 := by
  unfold wcells
  simp
  omega
theorem info96 : (Tryd.prog.info? 96).map (fun i => (i.zero, i.size, i.bytes)) = some (some (.int .u32 0), 1, 4) := by kernel_rfl
theorem index98 {cs : Array Value} {t : Nat} {v : Value} (ht : t < 80) (hc : cs[t]? = some v) (w : World) : (Instr.index 98 (.agg cs) (.int .i64 t)).run Tryd.prog w = .ok v w := by
  obtain ⟨i0, hi, _, hz, _⟩ := info_parts info96
  have h1 : (0 : Int) ≤ t ∧ (t : Int) < 80 := ⟨by omega, by omega⟩
  simp [Instr.index, run_underlying Tryd.underlying98, asIntOf, h1, sizeOf, typeInfo, hi, hz, go_sem, part, isAgg, run_underlying Tryd.underlying96, hc, ht]
theorem index97 {cs : Array Value} {t : Nat} {v : Value} (ht : t < 5) (hc : cs[t]? = some v) (w : World) : (Instr.index 97 (.agg cs) (.int .i64 t)).run Tryd.prog w = .ok v w := by
  obtain ⟨i0, hi, _, hz, _⟩ := info_parts info96
  have h1 : (0 : Int) ≤ t ∧ (t : Int) < 5 := ⟨by omega, by omega⟩
  simp [Instr.index, run_underlying Tryd.underlying97, asIntOf, h1, sizeOf, typeInfo, hi, hz, go_sem, part, isAgg, run_underlying Tryd.underlying96, hc, ht]
def addN (s y : S5) : Nat → S5
  | 0 => s
  | 1 => ⟨s.a + y.a, s.b, s.c, s.d, s.e⟩
  | 2 => ⟨s.a + y.a, s.b + y.b, s.c, s.d, s.e⟩
  | 3 => ⟨s.a + y.a, s.b + y.b, s.c + y.c, s.d, s.e⟩
  | 4 => ⟨s.a + y.a, s.b + y.b, s.c + y.c, s.d + y.d, s.e⟩
  | _ => ⟨s.a + y.a, s.b + y.b, s.c + y.c, s.d + y.d, s.e + y.e⟩
/-- one block -/
def blockS (s : S5) (bs : List UInt8) : S5 := addN s (roundsN (wordsN bs 64) s 80) 5
set_option maxRecDepth 8000 in
set_option maxHeartbeats 4000000 in
theorem blockP (I : Img) (M : List Res) (w : World) (hb g o n c : Nat) (s : S5) (bs : List UInt8) (hst : St I (bk hb 106 (st5 s) :: M) w) (hrd : Reads I M g o bs) (hbs : bs.length = 64) (hn : 64 ≤ n) (hn2 : n ≤ 1000000000000000000) :
    Calls Tryd.prog 70 #[.pointer (some ⟨hb, 0, none⟩), .slice (some ⟨g, o, none⟩) n c] w (Ret I (fun _ J M' => I = J ∧ M' = bk hb 106 (st5 (blockS s bs)) :: M)) := by
  have hs := hst.alloc 98 (wcells [])
  obtain ⟨q, hq⟩ : ∃ q, q = w.heap.size := ⟨_, rfl⟩
  rw [← hq] at hs
  have HR := Lib.hid hrd
  clear hst hrd
  go_enter Tryd.func70, Tryd.ntmps70
  go_upto_block 0 with fail
  rw [← hq, zero98]
  clear hq
  generalize World.alloc _ _ = W0 at hs ⊢
  have HS := Lib.hid hs
  clear hs
  have HBS := Lib.hid hbs
  clear hbs
  go_cut [] (fun wx => Hid (St I (bk q 98 (wcells (firstW bs 16)) :: bk hb 106 (st5 s) :: M) wx))
  case first =>
    go_wp2_with fail
    go_loopw [18] (fun iv wr => ∃ k : Nat, k ≤ 16 ∧ iv = .int .i64 k ∧ Hid (St I (bk q 98 (wcells (firstW bs k)) :: bk hb 106 (st5 s) :: M) wr)) (fun iv _ => 16 - (intOf iv).toNat)
    case atStart => exact ⟨0, by omega, rfl, HS⟩
    case round =>
      obtain ⟨k, hk, rfl, HSr⟩ := hrel
      clear HS
      by_cases hlt : k < 16
      rotate_left
      · obtain rfl : k = 16 := by omega
        clear hlt
        go_wp2
        go_meet
        exact HSr
      have hs := HSr.out.drew
      have hkl := HBS.out
      have HW := Lib.hid (show (wcells (firstW bs k)).setIfInBounds k (wv (be32 (bs.getD (4 * k) 0) (bs.getD (4 * k + 1) 0) (bs.getD (4 * k + 2) 0) (bs.getD (4 * k + 3) 0))) = wcells (firstW bs (k + 1)) from wcells_set (firstW_len bs k) (by omega) _)
      have gd : ∀ j, j < 64 → ∀ (cs : Array Value) w', St I (bk q 98 cs :: bk hb 106 (st5 s) :: M) w' → w'.cell? ⟨g, o + j, none⟩ = some (.int .u8 (bs.getD j 0).toNat) := fun j hj cs w' h => by
        rw [HR.out [_, _] w' h j (by omega)]
        simp [hkl, hj]
      have HRD := Lib.hid (show ∀ (cs : Array Value) w', St I (bk q 98 cs :: bk hb 106 (st5 s) :: M) w' → w'.cell? ⟨g, o + 4 * k, none⟩ = some (.int .u8 (bs.getD (4 * k) 0).toNat) ∧ w'.cell? ⟨g, o + (4 * k + 1), none⟩ = some (.int .u8 (bs.getD (4 * k + 1) 0).toNat) ∧ w'.cell? ⟨g, o + (4 * k + 2), none⟩ = some (.int .u8 (bs.getD (4 * k + 2) 0).toNat) ∧ w'.cell? ⟨g, o + (4 * k + 3), none⟩ = some (.int .u8 (bs.getD (4 * k + 3) 0).toNat) from fun cs w' h =>
        ⟨gd (4 * k) (by omega) cs w' h, gd (4 * k + 1) (by omega) cs w' h, gd (4 * k + 2) (by omega) cs w' h, gd (4 * k + 3) (by omega) cs w' h⟩)
      clear gd
      have hbe := be32_wi (bs.getD (4 * k) 0) (bs.getD (4 * k + 1) 0) (bs.getD (4 * k + 2) 0) (bs.getD (4 * k + 3) 0)
      generalize be32 (bs.getD (4 * k) 0) (bs.getD (4 * k + 1) 0) (bs.getD (4 * k + 2) 0) (bs.getD (4 * k + 3) 0) = X at HW hbe
      generalize bs.getD (4 * k) 0 = x0 at HRD hbe
      generalize bs.getD (4 * k + 1) 0 = x1 at HRD hbe
      generalize bs.getD (4 * k + 2) 0 = x2 at HRD hbe
      generalize bs.getD (4 * k + 3) 0 = x3 at HRD hbe
      obtain ⟨j, hj⟩ : ∃ j, j = 4 * k := ⟨_, rfl⟩
      rw [← hj] at HRD
      have hw0 : IntKind.i64.wrap (4 * (k : Int)) = (j : Int) := by rw [i64_wrap (by omega) (by omega)]; omega
      have hw1 : IntKind.i64.wrap ((j : Int) + 1) = (j : Int) + 1 := i64_wrap (by omega) (by omega)
      have hw2 : IntKind.i64.wrap ((j : Int) + 2) = (j : Int) + 2 := i64_wrap (by omega) (by omega)
      have hw3 : IntKind.i64.wrap ((j : Int) + 3) = (j : Int) + 3 := i64_wrap (by omega) (by omega)
      have hk80 : (k : Int) < 80 := by omega
      have hb0 : (j : Int) < n := by omega
      have hb1 : (j : Int) + 1 < n := by omega
      have hb2 : (j : Int) + 2 < n := by omega
      have hb3 : (j : Int) + 3 < n := by omega
      have hp1 : 0 ≤ (j : Int) + 1 := by omega
      have hp2 : 0 ≤ (j : Int) + 2 := by omega
      have hp3 : 0 ≤ (j : Int) + 3 := by omega
      have hn1 : ((j : Int) + 1).toNat = j + 1 := by omega
      have hn2 : ((j : Int) + 2).toNat = j + 2 := by omega
      have hn3 : ((j : Int) + 3).toNat = j + 3 := by omega
      clear HSr hkl hj
      go_upto_region 4 with fail
      have HCK := Lib.hid (wcells_free (firstW_len bs k) (by omega))
      refine wp_region_held_drew (S := (fun w' => w'.cell? ⟨g, o + j, none⟩ = some (.int .u8 x0.toNat) ∧ w'.cell? ⟨g, o + (j + 1), none⟩ = some (.int .u8 x1.toNat) ∧ w'.cell? ⟨g, o + (j + 2), none⟩ = some (.int .u8 x2.toNat) ∧ w'.cell? ⟨g, o + (j + 3), none⟩ = some (.int .u8 x3.toNat))) (by kernel_rfl) (by (try dsimp only); exact HRD.out _ _ hs) (fun hHeld => ?_)
      generalize World.drew _ = W at hs hHeld ⊢
      refine wpAnyH_take (i := 0) (oi := _) (v := ?_) rfl (by kernel_rfl) (by kernel_rfl) (by kernel_rfl) (fun _ _ _ h => h) (Or.inl ⟨by rfl, ?_⟩) (by assumption) ?_
      rotate_left
      · (intro w hSw; (try dsimp only at hSw); go_simp; try with_reducible rfl)
      try simp only [Act.put, List.getElem_toArray, List.getElem_cons_zero, List.getElem_cons_succ, List.setIfInBounds_toArray, List.set_cons_zero, List.set_cons_succ]
      refine wpAnyH_take (i := 1) (oi := _) (v := ?_) rfl (by kernel_rfl) (by kernel_rfl) (by kernel_rfl) (fun _ _ _ h => h) (Or.inl ⟨by rfl, ?_⟩) (by assumption) ?_
      rotate_left
      · (intro w hSw; (try dsimp only at hSw); go_simp; try with_reducible rfl)
      try simp only [Act.put, List.getElem_toArray, List.getElem_cons_zero, List.getElem_cons_succ, List.setIfInBounds_toArray, List.set_cons_zero, List.set_cons_succ]
      refine wpAnyH_take (i := 2) (oi := _) (v := ?_) rfl (by kernel_rfl) (by kernel_rfl) (by kernel_rfl) (fun _ _ _ h => h) (Or.inl ⟨by rfl, ?_⟩) (by assumption) ?_
      rotate_left
      · (intro w hSw; (try dsimp only at hSw); go_simp; try with_reducible rfl)
      try simp only [Act.put, List.getElem_toArray, List.getElem_cons_zero, List.getElem_cons_succ, List.setIfInBounds_toArray, List.set_cons_zero, List.set_cons_succ]
      refine wpAnyH_take (i := 3) (oi := _) (v := ?_) rfl (by kernel_rfl) (by kernel_rfl) (by kernel_rfl) (fun _ _ _ h => h) (Or.inl ⟨by rfl, ?_⟩) (by assumption) ?_
      rotate_left
      · (intro w hSw; (try dsimp only at hSw); go_simp; try with_reducible rfl)
      try simp only [Act.put, List.getElem_toArray, List.getElem_cons_zero, List.getElem_cons_succ, List.setIfInBounds_toArray, List.set_cons_zero, List.set_cons_succ]
      refine wpAnyH_take (i := 4) (oi := _) (v := ?_) rfl (by kernel_rfl) (by kernel_rfl) (by kernel_rfl) (fun _ _ _ h => h) (Or.inl ⟨by rfl, ?_⟩) (by assumption) ?_
      rotate_left
      · (intro w hSw; (try dsimp only at hSw); go_simp; try with_reducible rfl)
      try simp only [Act.put, List.getElem_toArray, List.getElem_cons_zero, List.getElem_cons_succ, List.setIfInBounds_toArray, List.set_cons_zero, List.set_cons_succ]
      refine wpAnyH_take (i := 5) (oi := _) (v := ?_) rfl (by kernel_rfl) (by kernel_rfl) (by kernel_rfl) (fun _ _ _ h => h) (Or.inl ⟨by rfl, ?_⟩) (by assumption) ?_
      rotate_left
      · (intro w hSw; (try dsimp only at hSw); go_simp; try with_reducible rfl)
      try simp only [Act.put, List.getElem_toArray, List.getElem_cons_zero, List.getElem_cons_succ, List.setIfInBounds_toArray, List.set_cons_zero, List.set_cons_succ]
      refine wpAnyH_take (i := 6) (oi := _) (v := ?_) rfl (by kernel_rfl) (by kernel_rfl) (by kernel_rfl) (fun _ _ _ h => h) (Or.inl ⟨by rfl, ?_⟩) (by assumption) ?_
      rotate_left
      · (intro w hSw; (try dsimp only at hSw); go_simp; try with_reducible rfl)
      try simp only [Act.put, List.getElem_toArray, List.getElem_cons_zero, List.getElem_cons_succ, List.setIfInBounds_toArray, List.set_cons_zero, List.set_cons_succ]
      refine wpAnyH_take (i := 7) (oi := _) (v := ?_) rfl (by kernel_rfl) (by kernel_rfl) (by kernel_rfl) (fun _ _ _ h => h) (Or.inl ⟨by rfl, ?_⟩) (by assumption) ?_
      rotate_left
      · (intro w hSw; (try dsimp only at hSw); go_simp; try with_reducible rfl)
      try simp only [Act.put, List.getElem_toArray, List.getElem_cons_zero, List.getElem_cons_succ, List.setIfInBounds_toArray, List.set_cons_zero, List.set_cons_succ]
      refine wpAnyH_take (i := 8) (oi := _) (v := ?_) rfl (by kernel_rfl) (by kernel_rfl) (by kernel_rfl) (fun _ _ _ h => h) (Or.inl ⟨by rfl, ?_⟩) (by assumption) ?_
      rotate_left
      · (intro w hSw; (try dsimp only at hSw); go_simp; try with_reducible rfl)
      try simp only [Act.put, List.getElem_toArray, List.getElem_cons_zero, List.getElem_cons_succ, List.setIfInBounds_toArray, List.set_cons_zero, List.set_cons_succ]
      refine wpAnyH_take (i := 9) (oi := _) (v := ?_) rfl (by kernel_rfl) (by kernel_rfl) (by kernel_rfl) (fun _ _ _ h => h) (Or.inl ⟨by rfl, ?_⟩) (by assumption) ?_
      rotate_left
      · (intro w hSw; (try dsimp only at hSw); go_simp; try with_reducible rfl)
      try simp only [Act.put, List.getElem_toArray, List.getElem_cons_zero, List.getElem_cons_succ, List.setIfInBounds_toArray, List.set_cons_zero, List.set_cons_succ]
      refine wpAnyH_take (i := 10) (oi := _) (v := ?_) rfl (by kernel_rfl) (by kernel_rfl) (by kernel_rfl) (fun _ _ _ h => h) (Or.inl ⟨by rfl, ?_⟩) (by assumption) ?_
      rotate_left
      · (intro w hSw; (try dsimp only at hSw); go_simp; try with_reducible rfl)
      try simp only [Act.put, List.getElem_toArray, List.getElem_cons_zero, List.getElem_cons_succ, List.setIfInBounds_toArray, List.set_cons_zero, List.set_cons_succ]
      refine wpAnyH_take (i := 11) (oi := _) (v := ?_) rfl (by kernel_rfl) (by kernel_rfl) (by kernel_rfl) (fun _ _ _ h => h) (Or.inl ⟨by rfl, ?_⟩) (by assumption) ?_
      rotate_left
      · (intro w hSw; (try dsimp only at hSw); go_simp; try with_reducible rfl)
      try simp only [Act.put, List.getElem_toArray, List.getElem_cons_zero, List.getElem_cons_succ, List.setIfInBounds_toArray, List.set_cons_zero, List.set_cons_succ]
      refine wpAnyH_take (i := 12) (oi := _) (v := ?_) rfl (by kernel_rfl) (by kernel_rfl) (by kernel_rfl) (fun _ _ _ h => h) (Or.inl ⟨by rfl, ?_⟩) (by assumption) ?_
      rotate_left
      · (intro w hSw; (try dsimp only at hSw); go_simp; try with_reducible rfl)
      try simp only [Act.put, List.getElem_toArray, List.getElem_cons_zero, List.getElem_cons_succ, List.setIfInBounds_toArray, List.set_cons_zero, List.set_cons_succ]
      refine wpAnyH_take (i := 13) (oi := _) (v := ?_) rfl (by kernel_rfl) (by kernel_rfl) (by kernel_rfl) (fun _ _ _ h => h) (Or.inl ⟨by rfl, ?_⟩) (by assumption) ?_
      rotate_left
      · (intro w hSw; (try dsimp only at hSw); go_simp; try with_reducible rfl)
      try simp only [Act.put, List.getElem_toArray, List.getElem_cons_zero, List.getElem_cons_succ, List.setIfInBounds_toArray, List.set_cons_zero, List.set_cons_succ]
      refine wpAnyH_take (i := 14) (oi := _) (v := ?_) rfl (by kernel_rfl) (by kernel_rfl) (by kernel_rfl) (fun _ _ _ h => h) (Or.inl ⟨by rfl, ?_⟩) (by assumption) ?_
      rotate_left
      · (intro w hSw; (try dsimp only at hSw); go_simp; try with_reducible rfl)
      try simp only [Act.put, List.getElem_toArray, List.getElem_cons_zero, List.getElem_cons_succ, List.setIfInBounds_toArray, List.set_cons_zero, List.set_cons_succ]
      refine wpAnyH_take (i := 15) (oi := _) (v := ?_) rfl (by kernel_rfl) (by kernel_rfl) (by kernel_rfl) (fun _ _ _ h => h) (Or.inl ⟨by rfl, ?_⟩) (by assumption) ?_
      rotate_left
      · (intro w hSw; (try dsimp only at hSw); go_simp; try with_reducible rfl)
      try simp only [Act.put, List.getElem_toArray, List.getElem_cons_zero, List.getElem_cons_succ, List.setIfInBounds_toArray, List.set_cons_zero, List.set_cons_succ]
      refine wpAnyH_take (i := 16) (oi := _) (v := ?_) rfl (by kernel_rfl) (by kernel_rfl) (by kernel_rfl) (fun _ _ _ h => h) (Or.inl ⟨by rfl, ?_⟩) (by assumption) ?_
      rotate_left
      · (intro w hSw; (try dsimp only at hSw); go_simp; try with_reducible rfl)
      try simp only [Act.put, List.getElem_toArray, List.getElem_cons_zero, List.getElem_cons_succ, List.setIfInBounds_toArray, List.set_cons_zero, List.set_cons_succ]
      refine wpAnyH_take (i := 17) (oi := _) (v := ?_) rfl (by kernel_rfl) (by kernel_rfl) (by kernel_rfl) (fun _ _ _ h => h) (Or.inl ⟨by rfl, ?_⟩) (by assumption) ?_
      rotate_left
      · (intro w hSw; (try dsimp only at hSw); go_simp; try with_reducible rfl)
      try simp only [Act.put, List.getElem_toArray, List.getElem_cons_zero, List.getElem_cons_succ, List.setIfInBounds_toArray, List.set_cons_zero, List.set_cons_succ]
      refine wpAnyH_take (i := 18) (oi := _) (v := ?_) rfl (by kernel_rfl) (by kernel_rfl) (by kernel_rfl) (fun _ _ _ h => h) (Or.inl ⟨by rfl, ?_⟩) (by assumption) ?_
      rotate_left
      · (intro w hSw; (try dsimp only at hSw); go_simp; try with_reducible rfl)
      try simp only [Act.put, List.getElem_toArray, List.getElem_cons_zero, List.getElem_cons_succ, List.setIfInBounds_toArray, List.set_cons_zero, List.set_cons_succ]
      refine wpAnyH_take (i := 19) (oi := _) (v := ?_) rfl (by kernel_rfl) (by kernel_rfl) (by kernel_rfl) (fun _ _ _ h => h) (Or.inl ⟨by rfl, ?_⟩) (by assumption) ?_
      rotate_left
      · (intro w hSw; (try dsimp only at hSw); go_simp; try with_reducible rfl)
      try simp only [Act.put, List.getElem_toArray, List.getElem_cons_zero, List.getElem_cons_succ, List.setIfInBounds_toArray, List.set_cons_zero, List.set_cons_succ]
      refine wpAnyH_take (i := 20) (oi := _) (v := ?_) rfl (by kernel_rfl) (by kernel_rfl) (by kernel_rfl) (fun _ _ _ h => h) (Or.inl ⟨by rfl, ?_⟩) (by assumption) ?_
      rotate_left
      · (intro w hSw; (try dsimp only at hSw); go_simp; try with_reducible rfl)
      try simp only [Act.put, List.getElem_toArray, List.getElem_cons_zero, List.getElem_cons_succ, List.setIfInBounds_toArray, List.set_cons_zero, List.set_cons_succ]
      refine wpAnyH_take (i := 21) (oi := _) (v := ?_) rfl (by kernel_rfl) (by kernel_rfl) (by kernel_rfl) (fun _ _ _ h => h) (Or.inl ⟨by rfl, ?_⟩) (by assumption) ?_
      rotate_left
      · (intro w hSw; (try dsimp only at hSw); go_simp; try with_reducible rfl)
      try simp only [Act.put, List.getElem_toArray, List.getElem_cons_zero, List.getElem_cons_succ, List.setIfInBounds_toArray, List.set_cons_zero, List.set_cons_succ]
      refine wpAnyH_take (i := 22) (oi := _) (v := ?_) rfl (by kernel_rfl) (by kernel_rfl) (by kernel_rfl) (fun _ _ _ h => h) (Or.inl ⟨by rfl, ?_⟩) (by assumption) ?_
      rotate_left
      · (intro w hSw; (try dsimp only at hSw); go_simp; try with_reducible rfl)
      try simp only [Act.put, List.getElem_toArray, List.getElem_cons_zero, List.getElem_cons_succ, List.setIfInBounds_toArray, List.set_cons_zero, List.set_cons_succ]
      refine wpAnyH_take (i := 23) (oi := _) (v := ?_) rfl (by kernel_rfl) (by kernel_rfl) (by kernel_rfl) (fun _ _ _ h => h) (Or.inl ⟨by rfl, ?_⟩) (by assumption) ?_
      rotate_left
      · (intro w hSw; (try dsimp only at hSw); go_simp; try with_reducible rfl)
      try simp only [Act.put, List.getElem_toArray, List.getElem_cons_zero, List.getElem_cons_succ, List.setIfInBounds_toArray, List.set_cons_zero, List.set_cons_succ]
      refine wpAnyH_take (i := 24) (oi := _) (v := ?_) rfl (by kernel_rfl) (by kernel_rfl) (by kernel_rfl) (fun _ _ _ h => h) (Or.inl ⟨by rfl, ?_⟩) (by assumption) ?_
      rotate_left
      · (intro w hSw; (try dsimp only at hSw); go_simp; try with_reducible rfl)
      try simp only [Act.put, List.getElem_toArray, List.getElem_cons_zero, List.getElem_cons_succ, List.setIfInBounds_toArray, List.set_cons_zero, List.set_cons_succ]
      refine wpAnyH_take (i := 25) (oi := _) (v := ?_) rfl (by kernel_rfl) (by kernel_rfl) (by kernel_rfl) (fun _ _ _ h => h) (Or.inl ⟨by rfl, ?_⟩) (by assumption) ?_
      rotate_left
      · (intro w hSw; (try dsimp only at hSw); go_simp; try with_reducible rfl)
      try simp only [Act.put, List.getElem_toArray, List.getElem_cons_zero, List.getElem_cons_succ, List.setIfInBounds_toArray, List.set_cons_zero, List.set_cons_succ]
      refine wpAnyH_take (i := 26) (oi := _) (v := ?_) rfl (by kernel_rfl) (by kernel_rfl) (by kernel_rfl) (fun _ _ _ h => h) (Or.inl ⟨by rfl, ?_⟩) (by assumption) ?_
      rotate_left
      · (intro w hSw; (try dsimp only at hSw); go_simp; try with_reducible rfl)
      try simp only [Act.put, List.getElem_toArray, List.getElem_cons_zero, List.getElem_cons_succ, List.setIfInBounds_toArray, List.set_cons_zero, List.set_cons_succ]
      refine wpAnyH_take (i := 27) (oi := _) (v := ?_) rfl (by kernel_rfl) (by kernel_rfl) (by kernel_rfl) (fun _ _ _ h => h) (Or.inl ⟨by rfl, ?_⟩) (by assumption) ?_
      rotate_left
      · (intro w hSw; (try dsimp only at hSw); go_simp; try with_reducible rfl)
      try simp only [Act.put, List.getElem_toArray, List.getElem_cons_zero, List.getElem_cons_succ, List.setIfInBounds_toArray, List.set_cons_zero, List.set_cons_succ]
      refine wpAnyH_take (i := 28) (oi := _) (v := ?_) rfl (by kernel_rfl) (by kernel_rfl) (by kernel_rfl) (fun _ _ _ h => h) (Or.inl ⟨by rfl, ?_⟩) (by assumption) ?_
      rotate_left
      · (intro w hSw; (try dsimp only at hSw); go_simp; try with_reducible rfl)
      try simp only [Act.put, List.getElem_toArray, List.getElem_cons_zero, List.getElem_cons_succ, List.setIfInBounds_toArray, List.set_cons_zero, List.set_cons_succ]
      refine wpAnyH_take (i := 29) (oi := _) (v := ?_) rfl (by kernel_rfl) (by kernel_rfl) (by kernel_rfl) (fun _ _ _ h => h) (Or.inl ⟨by rfl, ?_⟩) (by assumption) ?_
      rotate_left
      · (intro w hSw; (try dsimp only at hSw); go_simp; try with_reducible rfl)
      try simp only [Act.put, List.getElem_toArray, List.getElem_cons_zero, List.getElem_cons_succ, List.setIfInBounds_toArray, List.set_cons_zero, List.set_cons_succ]
      refine wpAnyH_take (i := 30) (oi := _) (v := ?_) rfl (by kernel_rfl) (by kernel_rfl) (by kernel_rfl) (fun _ _ _ h => h) (Or.inl ⟨by rfl, ?_⟩) (by assumption) ?_
      rotate_left
      · (intro w hSw; (try dsimp only at hSw); go_simp; try with_reducible rfl)
      try simp only [Act.put, List.getElem_toArray, List.getElem_cons_zero, List.getElem_cons_succ, List.setIfInBounds_toArray, List.set_cons_zero, List.set_cons_succ]
      refine wpAnyH_take (i := 31) (oi := _) (v := ?_) rfl (by kernel_rfl) (by kernel_rfl) (by kernel_rfl) (fun _ _ _ h => h) (Or.inl ⟨by rfl, ?_⟩) (by assumption) ?_
      rotate_left
      · (intro w hSw; (try dsimp only at hSw); go_simp; try with_reducible rfl)
      try simp only [Act.put, List.getElem_toArray, List.getElem_cons_zero, List.getElem_cons_succ, List.setIfInBounds_toArray, List.set_cons_zero, List.set_cons_succ]
      refine wpAnyH_take (i := 32) (oi := _) (v := ?_) rfl (by kernel_rfl) (by kernel_rfl) (by kernel_rfl) (fun _ _ _ h => h) (Or.inl ⟨by rfl, ?_⟩) (by assumption) ?_
      rotate_left
      · (intro w hSw; (try dsimp only at hSw); go_simp; try with_reducible rfl)
      try simp only [Act.put, List.getElem_toArray, List.getElem_cons_zero, List.getElem_cons_succ, List.setIfInBounds_toArray, List.set_cons_zero, List.set_cons_succ]
      refine wpAnyH_take (i := 33) (oi := _) (v := ?_) rfl (by kernel_rfl) (by kernel_rfl) (by kernel_rfl) (fun _ _ _ h => h) (Or.inl ⟨by rfl, ?_⟩) (by assumption) ?_
      rotate_left
      · (intro w hSw; (try dsimp only at hSw); go_simp; try with_reducible rfl)
      try simp only [Act.put, List.getElem_toArray, List.getElem_cons_zero, List.getElem_cons_succ, List.setIfInBounds_toArray, List.set_cons_zero, List.set_cons_succ]
      refine wpAnyH_take (i := 34) (oi := _) (v := ?_) rfl (by kernel_rfl) (by kernel_rfl) (by kernel_rfl) (fun _ _ _ h => h) (Or.inl ⟨by rfl, ?_⟩) (by assumption) ?_
      rotate_left
      · (intro w hSw; (try dsimp only at hSw); go_simp; try with_reducible rfl)
      try simp only [Act.put, List.getElem_toArray, List.getElem_cons_zero, List.getElem_cons_succ, List.setIfInBounds_toArray, List.set_cons_zero, List.set_cons_succ]
      refine wpAnyH_ready (rs := [35]) (by kernel_rfl) (by simp) ?_
      refine (AllReadyH.cons (o := _) rfl (fun K hK => ?_) AllReadyH.nil)
      have hc1 : W.cell? ⟨q, k, none⟩ = some (.int .u32 0) := (Blk.cell hs.head k).trans HCK.out
      have hf1 := Blk.frozen (show Blk W q 98 _ from hs.head) k
      go_simp
      replace hs := hs.set k (wv X)
      rw [HW.out] at hs
      try clear hHeld
      refine hK.out _ _ (by (try dsimp only); exact HRD.out _ _ hs) (fun hHeld => ?_)
      clear hK K
      try simp only [Act.put, List.getElem_toArray, List.getElem_cons_zero, List.getElem_cons_succ, List.setIfInBounds_toArray, List.set_cons_zero, List.set_cons_succ]
      clear hc1 hf1
      refine wpAnyH_done (by kernel_rfl) ?_ _
      have HS9 := Lib.hid hs
      clear hs
      go_wp2
      go_roundw
      case rel => exact ⟨k + 1, by omega, by go_num, HS9⟩
      case measure => simp [intOf]; omega
  case rest =>
  have HS2 := hcut
  clear hcut HS
  go_upto_block 2 with fail
  go_cut [] (fun wx => Hid (St I (bk q 98 (wcells (wordsN bs 64)) :: bk hb 106 (st5 s) :: M) wx))
  case first =>
    go_wp2_with fail
    go_loopw [6] (fun iv wr => ∃ i k : Nat, i ≤ 64 ∧ k = 16 + i ∧ iv = .int .i64 k ∧ Hid (St I (bk q 98 (wcells (wordsN bs i)) :: bk hb 106 (st5 s) :: M) wr)) (fun iv _ => 80 - (intOf iv).toNat)
    case atStart => exact ⟨0, 16, by omega, rfl, rfl, HS2⟩
    case round =>
      obtain ⟨i, k, hi, hki, rfl, HSr⟩ := hrel
      clear HS2
      by_cases hlt : k < 80
      rotate_left
      · obtain rfl : i = 64 := by omega
        have hge : (80 : Int) ≤ k := by omega
        clear hlt hki
        go_wp2
        go_meet
        exact HSr
      have hlen := wordsN_len bs i
      rw [← hki] at hlen
      have HW := Lib.hid (show (wcells (wordsN bs i)).setIfInBounds k (wv (nextW (wordsN bs i))) = wcells (wordsN bs (i + 1)) from wcells_set hlen (by omega) _)
      have HCK := Lib.hid (wcells_free hlen (by omega))
      obtain ⟨a3, ha3⟩ : ∃ a : Nat, a = k - 3 := ⟨_, rfl⟩
      obtain ⟨a8, ha8⟩ : ∃ a : Nat, a = k - 8 := ⟨_, rfl⟩
      obtain ⟨a14, ha14⟩ : ∃ a : Nat, a = k - 14 := ⟨_, rfl⟩
      obtain ⟨a16, ha16⟩ : ∃ a : Nat, a = k - 16 := ⟨_, rfl⟩
      have hg : ∀ a, a < k → (wcells (wordsN bs i))[a]? = some (wv ((wordsN bs i).getD a 0)) := fun a h => wcells_get (by omega)
      have hg2 : ∀ a, a < k → (wcells (wordsN bs (i + 1)))[a]? = some (wv ((wordsN bs i).getD a 0)) := fun a h => by
        rw [wcells_get (show a < (wordsN bs (i + 1)).length by rw [wordsN_len]; omega)]
        simp [wordsN, List.getElem?_append_left, hlen, h]
      have HRD := Lib.hid (show ∀ cs, (cs = wcells (wordsN bs i) ∨ cs = wcells (wordsN bs (i + 1))) → ∀ w', St I (bk q 98 cs :: bk hb 106 (st5 s) :: M) w' → w'.cell? ⟨q, a3, none⟩ = some (wv ((wordsN bs i).getD a3 0)) ∧ w'.cell? ⟨q, a8, none⟩ = some (wv ((wordsN bs i).getD a8 0)) ∧ w'.cell? ⟨q, a14, none⟩ = some (wv ((wordsN bs i).getD a14 0)) ∧ w'.cell? ⟨q, a16, none⟩ = some (wv ((wordsN bs i).getD a16 0)) from fun cs hcs w' h => by
        have hc : ∀ a, a < k → cs[a]? = some (wv ((wordsN bs i).getD a 0)) := fun a ha => by
          rcases hcs with rfl | rfl
          · exact hg a ha
          · exact hg2 a ha
        exact ⟨(Blk.cell h.head a3).trans (hc _ (by omega)), (Blk.cell h.head a8).trans (hc _ (by omega)), (Blk.cell h.head a14).trans (hc _ (by omega)), (Blk.cell h.head a16).trans (hc _ (by omega))⟩)
      have hnx : nextW (wordsN bs i) = rot 1 ((((wordsN bs i).getD a3 0 ^^^ (wordsN bs i).getD a8 0) ^^^ (wordsN bs i).getD a14 0) ^^^ (wordsN bs i).getD a16 0) := by
        unfold nextW
        rw [hlen, ha3, ha8, ha14, ha16]
      rw [hnx] at HW
      have hx1 := wi_xor ((wordsN bs i).getD a3 0) ((wordsN bs i).getD a8 0)
      have hx2 := wi_xor ((wordsN bs i).getD a3 0 ^^^ (wordsN bs i).getD a8 0) ((wordsN bs i).getD a14 0)
      have hx3 := wi_xor (((wordsN bs i).getD a3 0 ^^^ (wordsN bs i).getD a8 0) ^^^ (wordsN bs i).getD a14 0) ((wordsN bs i).getD a16 0)
      generalize (((wordsN bs i).getD a3 0 ^^^ (wordsN bs i).getD a8 0) ^^^ (wordsN bs i).getD a14 0) ^^^ (wordsN bs i).getD a16 0 = y3 at HW hx3
      generalize ((wordsN bs i).getD a3 0 ^^^ (wordsN bs i).getD a8 0) ^^^ (wordsN bs i).getD a14 0 = y2 at hx2 hx3
      generalize (wordsN bs i).getD a3 0 ^^^ (wordsN bs i).getD a8 0 = y1 at hx1 hx2
      generalize (wordsN bs i).getD a3 0 = x3 at HRD hx1
      generalize (wordsN bs i).getD a8 0 = x8 at HRD hx1
      generalize (wordsN bs i).getD a14 0 = x14 at HRD hx2
      generalize (wordsN bs i).getD a16 0 = x16 at HRD hx3
      have HC := Lib.hid (show ∀ w, Calls Tryd.prog 87 #[wv y3, .int .i64 1] w fun e w' => e = .returned (wv (rot 1 y3)) ∧ w' = w from fun w => rotP 1 (.inl rfl) y3 w)
      have hw3 : IntKind.i64.wrap ((k : Int) - 3) = (a3 : Int) := by rw [i64_wrap (by omega) (by omega)]; omega
      have hw8 : IntKind.i64.wrap ((k : Int) - 8) = (a8 : Int) := by rw [i64_wrap (by omega) (by omega)]; omega
      have hw14 : IntKind.i64.wrap ((k : Int) - 14) = (a14 : Int) := by rw [i64_wrap (by omega) (by omega)]; omega
      have hw16 : IntKind.i64.wrap ((k : Int) - 16) = (a16 : Int) := by rw [i64_wrap (by omega) (by omega)]; omega
      have hb0 : (k : Int) < 80 := by omega
      have hb3 : (a3 : Int) < 80 := by omega
      have hb8 : (a8 : Int) < 80 := by omega
      have hb14 : (a14 : Int) < 80 := by omega
      have hb16 : (a16 : Int) < 80 := by omega
      have hs := HSr.out.drew
      have HKI := Lib.hid hki
      clear HSr hlen hnx hg hg2 ha3 ha8 ha14 ha16 hki
      go_upto_region 9 with fail
      refine wp_region_held_drew (S := (fun w' => w'.cell? ⟨q, a3, none⟩ = some (wv x3) ∧ w'.cell? ⟨q, a8, none⟩ = some (wv x8) ∧ w'.cell? ⟨q, a14, none⟩ = some (wv x14) ∧ w'.cell? ⟨q, a16, none⟩ = some (wv x16))) (by kernel_rfl) (by (try dsimp only); first | exact HRD.out _ (.inl rfl) _ hs | exact HRD.out _ (.inr rfl) _ hs) (fun hHeld => ?_)
      generalize World.drew _ = W at hs hHeld ⊢
      refine wpAnyH_take (i := 0) (oi := _) (v := ?_) rfl (by kernel_rfl) (by kernel_rfl) (by kernel_rfl) (fun _ _ _ h => h) (Or.inl ⟨by rfl, ?_⟩) (by assumption) ?_
      rotate_left
      · (intro w hSw; (try dsimp only at hSw); go_simp; try with_reducible rfl)
      try simp only [Act.put, List.getElem_toArray, List.getElem_cons_zero, List.getElem_cons_succ, List.setIfInBounds_toArray, List.set_cons_zero, List.set_cons_succ]
      refine wpAnyH_take (i := 1) (oi := _) (v := ?_) rfl (by kernel_rfl) (by kernel_rfl) (by kernel_rfl) (fun _ _ _ h => h) (Or.inl ⟨by rfl, ?_⟩) (by assumption) ?_
      rotate_left
      · (intro w hSw; (try dsimp only at hSw); go_simp; try with_reducible rfl)
      try simp only [Act.put, List.getElem_toArray, List.getElem_cons_zero, List.getElem_cons_succ, List.setIfInBounds_toArray, List.set_cons_zero, List.set_cons_succ]
      refine wpAnyH_take (i := 2) (oi := _) (v := ?_) rfl (by kernel_rfl) (by kernel_rfl) (by kernel_rfl) (fun _ _ _ h => h) (Or.inl ⟨by rfl, ?_⟩) (by assumption) ?_
      rotate_left
      · (intro w hSw; (try dsimp only at hSw); go_simp; try with_reducible rfl)
      try simp only [Act.put, List.getElem_toArray, List.getElem_cons_zero, List.getElem_cons_succ, List.setIfInBounds_toArray, List.set_cons_zero, List.set_cons_succ]
      refine wpAnyH_take (i := 3) (oi := _) (v := ?_) rfl (by kernel_rfl) (by kernel_rfl) (by kernel_rfl) (fun _ _ _ h => h) (Or.inl ⟨by rfl, ?_⟩) (by assumption) ?_
      rotate_left
      · (intro w hSw; (try dsimp only at hSw); go_simp; try with_reducible rfl)
      try simp only [Act.put, List.getElem_toArray, List.getElem_cons_zero, List.getElem_cons_succ, List.setIfInBounds_toArray, List.set_cons_zero, List.set_cons_succ]
      refine wpAnyH_take (i := 4) (oi := _) (v := ?_) rfl (by kernel_rfl) (by kernel_rfl) (by kernel_rfl) (fun _ _ _ h => h) (Or.inl ⟨by rfl, ?_⟩) (by assumption) ?_
      rotate_left
      · (intro w hSw; (try dsimp only at hSw); go_simp; try with_reducible rfl)
      try simp only [Act.put, List.getElem_toArray, List.getElem_cons_zero, List.getElem_cons_succ, List.setIfInBounds_toArray, List.set_cons_zero, List.set_cons_succ]
      refine wpAnyH_take (i := 5) (oi := _) (v := ?_) rfl (by kernel_rfl) (by kernel_rfl) (by kernel_rfl) (fun _ _ _ h => h) (Or.inl ⟨by rfl, ?_⟩) (by assumption) ?_
      rotate_left
      · (intro w hSw; (try dsimp only at hSw); go_simp; try with_reducible rfl)
      try simp only [Act.put, List.getElem_toArray, List.getElem_cons_zero, List.getElem_cons_succ, List.setIfInBounds_toArray, List.set_cons_zero, List.set_cons_succ]
      refine wpAnyH_take (i := 6) (oi := _) (v := ?_) rfl (by kernel_rfl) (by kernel_rfl) (by kernel_rfl) (fun _ _ _ h => h) (Or.inl ⟨by rfl, ?_⟩) (by assumption) ?_
      rotate_left
      · (intro w hSw; (try dsimp only at hSw); go_simp; try with_reducible rfl)
      try simp only [Act.put, List.getElem_toArray, List.getElem_cons_zero, List.getElem_cons_succ, List.setIfInBounds_toArray, List.set_cons_zero, List.set_cons_succ]
      refine wpAnyH_take (i := 7) (oi := _) (v := ?_) rfl (by kernel_rfl) (by kernel_rfl) (by kernel_rfl) (fun _ _ _ h => h) (Or.inl ⟨by rfl, ?_⟩) (by assumption) ?_
      rotate_left
      · (intro w hSw; (try dsimp only at hSw); go_simp; try with_reducible rfl)
      try simp only [Act.put, List.getElem_toArray, List.getElem_cons_zero, List.getElem_cons_succ, List.setIfInBounds_toArray, List.set_cons_zero, List.set_cons_succ]
      refine wpAnyH_take (i := 8) (oi := _) (v := ?_) rfl (by kernel_rfl) (by kernel_rfl) (by kernel_rfl) (fun _ _ _ h => h) (Or.inl ⟨by rfl, ?_⟩) (by assumption) ?_
      rotate_left
      · (intro w hSw; (try dsimp only at hSw); go_simp; try with_reducible rfl)
      try simp only [Act.put, List.getElem_toArray, List.getElem_cons_zero, List.getElem_cons_succ, List.setIfInBounds_toArray, List.set_cons_zero, List.set_cons_succ]
      refine wpAnyH_take (i := 9) (oi := _) (v := ?_) rfl (by kernel_rfl) (by kernel_rfl) (by kernel_rfl) (fun _ _ _ h => h) (Or.inl ⟨by rfl, ?_⟩) (by assumption) ?_
      rotate_left
      · (intro w hSw; (try dsimp only at hSw); go_simp; try with_reducible rfl)
      try simp only [Act.put, List.getElem_toArray, List.getElem_cons_zero, List.getElem_cons_succ, List.setIfInBounds_toArray, List.set_cons_zero, List.set_cons_succ]
      refine wpAnyH_take (i := 10) (oi := _) (v := ?_) rfl (by kernel_rfl) (by kernel_rfl) (by kernel_rfl) (fun _ _ _ h => h) (Or.inl ⟨by rfl, ?_⟩) (by assumption) ?_
      rotate_left
      · (intro w hSw; (try dsimp only at hSw); go_simp; try with_reducible rfl)
      try simp only [Act.put, List.getElem_toArray, List.getElem_cons_zero, List.getElem_cons_succ, List.setIfInBounds_toArray, List.set_cons_zero, List.set_cons_succ]
      refine wpAnyH_take (i := 11) (oi := _) (v := ?_) rfl (by kernel_rfl) (by kernel_rfl) (by kernel_rfl) (fun _ _ _ h => h) (Or.inl ⟨by rfl, ?_⟩) (by assumption) ?_
      rotate_left
      · (intro w hSw; (try dsimp only at hSw); go_simp; try with_reducible rfl)
      try simp only [Act.put, List.getElem_toArray, List.getElem_cons_zero, List.getElem_cons_succ, List.setIfInBounds_toArray, List.set_cons_zero, List.set_cons_succ]
      refine wpAnyH_take (i := 12) (oi := _) (v := ?_) rfl (by kernel_rfl) (by kernel_rfl) (by kernel_rfl) (fun _ _ _ h => h) (Or.inl ⟨by rfl, ?_⟩) (by assumption) ?_
      rotate_left
      · (intro w hSw; (try dsimp only at hSw); go_simp; try with_reducible rfl)
      try simp only [Act.put, List.getElem_toArray, List.getElem_cons_zero, List.getElem_cons_succ, List.setIfInBounds_toArray, List.set_cons_zero, List.set_cons_succ]
      refine wpAnyH_take (i := 13) (oi := _) (v := ?_) rfl (by kernel_rfl) (by kernel_rfl) (by kernel_rfl) (fun _ _ _ h => h) (Or.inl ⟨by rfl, ?_⟩) (by assumption) ?_
      rotate_left
      · (intro w hSw; (try dsimp only at hSw); go_simp; try with_reducible rfl)
      try simp only [Act.put, List.getElem_toArray, List.getElem_cons_zero, List.getElem_cons_succ, List.setIfInBounds_toArray, List.set_cons_zero, List.set_cons_succ]
      refine wpAnyH_take (i := 14) (oi := _) (v := ?_) rfl (by kernel_rfl) (by kernel_rfl) (by kernel_rfl) (fun _ _ _ h => h) (Or.inl ⟨by rfl, ?_⟩) (by assumption) ?_
      rotate_left
      · (intro w hSw; (try dsimp only at hSw); go_simp; try with_reducible rfl)
      try simp only [Act.put, List.getElem_toArray, List.getElem_cons_zero, List.getElem_cons_succ, List.setIfInBounds_toArray, List.set_cons_zero, List.set_cons_succ]
      refine wpAnyH_take (i := 15) (oi := _) (v := ?_) rfl (by kernel_rfl) (by kernel_rfl) (by kernel_rfl) (fun _ _ _ h => h) (Or.inl ⟨by rfl, ?_⟩) (by assumption) ?_
      rotate_left
      · (intro w hSw; (try dsimp only at hSw); go_simp; try with_reducible rfl)
      try simp only [Act.put, List.getElem_toArray, List.getElem_cons_zero, List.getElem_cons_succ, List.setIfInBounds_toArray, List.set_cons_zero, List.set_cons_succ]
      refine wpAnyH_take (i := 16) (oi := _) (v := ?_) rfl (by kernel_rfl) (by kernel_rfl) (by kernel_rfl) (fun _ _ _ h => h) (Or.inl ⟨by rfl, ?_⟩) (by assumption) ?_
      rotate_left
      · (intro w hSw; (try dsimp only at hSw); go_simp; try with_reducible rfl)
      try simp only [Act.put, List.getElem_toArray, List.getElem_cons_zero, List.getElem_cons_succ, List.setIfInBounds_toArray, List.set_cons_zero, List.set_cons_succ]
      refine wpAnyH_take (i := 17) (oi := _) (v := ?_) rfl (by kernel_rfl) (by kernel_rfl) (by kernel_rfl) (fun _ _ _ h => h) (Or.inl ⟨by rfl, ?_⟩) (by assumption) ?_
      rotate_left
      · (intro w hSw; (try dsimp only at hSw); go_simp; try with_reducible rfl)
      try simp only [Act.put, List.getElem_toArray, List.getElem_cons_zero, List.getElem_cons_succ, List.setIfInBounds_toArray, List.set_cons_zero, List.set_cons_succ]
      refine wpAnyH_take (i := 18) (oi := _) (v := ?_) rfl (by kernel_rfl) (by kernel_rfl) (by kernel_rfl) (fun _ _ _ h => h) (Or.inl ⟨by rfl, ?_⟩) (by assumption) ?_
      rotate_left
      · (intro w hSw; (try dsimp only at hSw); go_simp; try with_reducible rfl)
      try simp only [Act.put, List.getElem_toArray, List.getElem_cons_zero, List.getElem_cons_succ, List.setIfInBounds_toArray, List.set_cons_zero, List.set_cons_succ]
      refine wpAnyH_take (i := 19) (oi := _) (v := ?_) rfl (by kernel_rfl) (by kernel_rfl) (by kernel_rfl) (fun _ _ _ h => h) (Or.inl ⟨by rfl, ?_⟩) (by assumption) ?_
      rotate_left
      · (intro w hSw; (try dsimp only at hSw); go_simp; try with_reducible rfl)
      try simp only [Act.put, List.getElem_toArray, List.getElem_cons_zero, List.getElem_cons_succ, List.setIfInBounds_toArray, List.set_cons_zero, List.set_cons_succ]
      refine wpAnyH_ready (rs := [20]) (by kernel_rfl) (by simp) ?_
      refine (AllReadyH.cons (o := _) rfl (fun K hK => ?_) AllReadyH.nil)
      go_simp
      refine (HC.out _).mono ?_
      rintro e w' ⟨rfl, rfl⟩
      try clear hHeld
      refine hK.out _ _ (by (try dsimp only); first | exact HRD.out _ (.inl rfl) _ hs | exact HRD.out _ (.inr rfl) _ hs) (fun hHeld => ?_)
      clear hK K
      try simp only [Act.put, List.getElem_toArray, List.getElem_cons_zero, List.getElem_cons_succ, List.setIfInBounds_toArray, List.set_cons_zero, List.set_cons_succ]
      refine wpAnyH_take (i := 21) (oi := _) (v := ?_) rfl (by kernel_rfl) (by kernel_rfl) (by kernel_rfl) (fun _ _ _ h => h) (Or.inl ⟨by rfl, ?_⟩) (by assumption) ?_
      rotate_left
      · (intro w hSw; (try dsimp only at hSw); go_simp; try with_reducible rfl)
      try simp only [Act.put, List.getElem_toArray, List.getElem_cons_zero, List.getElem_cons_succ, List.setIfInBounds_toArray, List.set_cons_zero, List.set_cons_succ]
      refine wpAnyH_ready (rs := [22]) (by kernel_rfl) (by simp) ?_
      refine (AllReadyH.cons (o := _) rfl (fun K hK => ?_) AllReadyH.nil)
      have hc1 : w'.cell? ⟨q, k, none⟩ = some (.int .u32 0) := (Blk.cell hs.head k).trans HCK.out
      have hf1 := Blk.frozen (show Blk w' q 98 _ from hs.head) k
      go_simp
      replace hs := hs.set k (wv (rot 1 y3))
      rw [HW.out] at hs
      try clear hHeld
      refine hK.out _ _ (by (try dsimp only); first | exact HRD.out _ (.inl rfl) _ hs | exact HRD.out _ (.inr rfl) _ hs) (fun hHeld => ?_)
      clear hK K
      try simp only [Act.put, List.getElem_toArray, List.getElem_cons_zero, List.getElem_cons_succ, List.setIfInBounds_toArray, List.set_cons_zero, List.set_cons_succ]
      clear hc1 hf1
      refine wpAnyH_done (by kernel_rfl) ?_ _
      have HS9 := Lib.hid hs
      clear hs
      go_wp2
      go_roundw
      case rel => exact ⟨i + 1, k + 1, by have := HKI.out; omega, by have := HKI.out; omega, by go_num, HS9⟩
      case measure => simp [intOf]; omega
  case rest =>
  have HS := hcut
  clear hcut HS2
  obtain ⟨s0, s1, s2, s3, s4⟩ := s
  go_upto_region 10 with fail
  have hs := HS.out.drew
  clear HS
  refine wp_region_held_drew (S := (fun w' => w'.cell? ⟨hb, 0, none⟩ = some (wv s0) ∧ w'.cell? ⟨hb, 1, none⟩ = some (wv s1) ∧ w'.cell? ⟨hb, 2, none⟩ = some (wv s2) ∧ w'.cell? ⟨hb, 3, none⟩ = some (wv s3) ∧ w'.cell? ⟨hb, 4, none⟩ = some (wv s4))) (by kernel_rfl) (by (try dsimp only); exact st5Keep (hs.at 1 rfl)) (fun hHeld => ?_)
  refine wpAnyH_take (i := 0) (oi := _) (v := ?_) rfl (by kernel_rfl) (by kernel_rfl) (by kernel_rfl) (fun _ _ _ h => h) (Or.inl ⟨by rfl, ?_⟩) (by assumption) ?_
  rotate_left
  · (intro w hSw; (try dsimp only at hSw); go_simp; try with_reducible rfl)
  try simp only [Act.put, List.getElem_toArray, List.getElem_cons_zero, List.getElem_cons_succ, List.setIfInBounds_toArray, List.set_cons_zero, List.set_cons_succ]
  refine wpAnyH_take (i := 1) (oi := _) (v := ?_) rfl (by kernel_rfl) (by kernel_rfl) (by kernel_rfl) (fun _ _ _ h => h) (Or.inl ⟨by rfl, ?_⟩) (by assumption) ?_
  rotate_left
  · (intro w hSw; (try dsimp only at hSw); go_simp; try with_reducible rfl)
  try simp only [Act.put, List.getElem_toArray, List.getElem_cons_zero, List.getElem_cons_succ, List.setIfInBounds_toArray, List.set_cons_zero, List.set_cons_succ]
  refine wpAnyH_take (i := 2) (oi := _) (v := ?_) rfl (by kernel_rfl) (by kernel_rfl) (by kernel_rfl) (fun _ _ _ h => h) (Or.inl ⟨by rfl, ?_⟩) (by assumption) ?_
  rotate_left
  · (intro w hSw; (try dsimp only at hSw); go_simp; try with_reducible rfl)
  try simp only [Act.put, List.getElem_toArray, List.getElem_cons_zero, List.getElem_cons_succ, List.setIfInBounds_toArray, List.set_cons_zero, List.set_cons_succ]
  refine wpAnyH_take (i := 3) (oi := _) (v := ?_) rfl (by kernel_rfl) (by kernel_rfl) (by kernel_rfl) (fun _ _ _ h => h) (Or.inl ⟨by rfl, ?_⟩) (by assumption) ?_
  rotate_left
  · (intro w hSw; (try dsimp only at hSw); go_simp; try with_reducible rfl)
  try simp only [Act.put, List.getElem_toArray, List.getElem_cons_zero, List.getElem_cons_succ, List.setIfInBounds_toArray, List.set_cons_zero, List.set_cons_succ]
  refine wpAnyH_take (i := 4) (oi := _) (v := ?_) rfl (by kernel_rfl) (by kernel_rfl) (by kernel_rfl) (fun _ _ _ h => h) (Or.inl ⟨by rfl, ?_⟩) (by assumption) ?_
  rotate_left
  · (intro w hSw; (try dsimp only at hSw); go_simp; try with_reducible rfl)
  try simp only [Act.put, List.getElem_toArray, List.getElem_cons_zero, List.getElem_cons_succ, List.setIfInBounds_toArray, List.set_cons_zero, List.set_cons_succ]
  refine wpAnyH_take (i := 5) (oi := _) (v := ?_) rfl (by kernel_rfl) (by kernel_rfl) (by kernel_rfl) (fun _ _ _ h => h) (Or.inl ⟨by rfl, ?_⟩) (by assumption) ?_
  rotate_left
  · (intro w hSw; (try dsimp only at hSw); go_simp; try with_reducible rfl)
  try simp only [Act.put, List.getElem_toArray, List.getElem_cons_zero, List.getElem_cons_succ, List.setIfInBounds_toArray, List.set_cons_zero, List.set_cons_succ]
  refine wpAnyH_take (i := 6) (oi := _) (v := ?_) rfl (by kernel_rfl) (by kernel_rfl) (by kernel_rfl) (fun _ _ _ h => h) (Or.inl ⟨by rfl, ?_⟩) (by assumption) ?_
  rotate_left
  · (intro w hSw; (try dsimp only at hSw); go_simp; try with_reducible rfl)
  try simp only [Act.put, List.getElem_toArray, List.getElem_cons_zero, List.getElem_cons_succ, List.setIfInBounds_toArray, List.set_cons_zero, List.set_cons_succ]
  refine wpAnyH_take (i := 7) (oi := _) (v := ?_) rfl (by kernel_rfl) (by kernel_rfl) (by kernel_rfl) (fun _ _ _ h => h) (Or.inl ⟨by rfl, ?_⟩) (by assumption) ?_
  rotate_left
  · (intro w hSw; (try dsimp only at hSw); go_simp; try with_reducible rfl)
  try simp only [Act.put, List.getElem_toArray, List.getElem_cons_zero, List.getElem_cons_succ, List.setIfInBounds_toArray, List.set_cons_zero, List.set_cons_succ]
  refine wpAnyH_take (i := 8) (oi := _) (v := ?_) rfl (by kernel_rfl) (by kernel_rfl) (by kernel_rfl) (fun _ _ _ h => h) (Or.inl ⟨by rfl, ?_⟩) (by assumption) ?_
  rotate_left
  · (intro w hSw; (try dsimp only at hSw); go_simp; try with_reducible rfl)
  try simp only [Act.put, List.getElem_toArray, List.getElem_cons_zero, List.getElem_cons_succ, List.setIfInBounds_toArray, List.set_cons_zero, List.set_cons_succ]
  refine wpAnyH_take (i := 9) (oi := _) (v := ?_) rfl (by kernel_rfl) (by kernel_rfl) (by kernel_rfl) (fun _ _ _ h => h) (Or.inl ⟨by rfl, ?_⟩) (by assumption) ?_
  rotate_left
  · (intro w hSw; (try dsimp only at hSw); go_simp; try with_reducible rfl)
  try simp only [Act.put, List.getElem_toArray, List.getElem_cons_zero, List.getElem_cons_succ, List.setIfInBounds_toArray, List.set_cons_zero, List.set_cons_succ]
  refine wpAnyH_take (i := 10) (oi := _) (v := ?_) rfl (by kernel_rfl) (by kernel_rfl) (by kernel_rfl) (fun _ _ _ h => h) (Or.inl ⟨by rfl, ?_⟩) (by assumption) ?_
  rotate_left
  · (intro w hSw; (try dsimp only at hSw); go_simp; try with_reducible rfl)
  try simp only [Act.put, List.getElem_toArray, List.getElem_cons_zero, List.getElem_cons_succ, List.setIfInBounds_toArray, List.set_cons_zero, List.set_cons_succ]
  refine wpAnyH_take (i := 11) (oi := _) (v := ?_) rfl (by kernel_rfl) (by kernel_rfl) (by kernel_rfl) (fun _ _ _ h => h) (Or.inl ⟨by rfl, ?_⟩) (by assumption) ?_
  rotate_left
  · (intro w hSw; (try dsimp only at hSw); go_simp; try with_reducible rfl)
  try simp only [Act.put, List.getElem_toArray, List.getElem_cons_zero, List.getElem_cons_succ, List.setIfInBounds_toArray, List.set_cons_zero, List.set_cons_succ]
  refine wpAnyH_take (i := 12) (oi := _) (v := ?_) rfl (by kernel_rfl) (by kernel_rfl) (by kernel_rfl) (fun _ _ _ h => h) (Or.inl ⟨by rfl, ?_⟩) (by assumption) ?_
  rotate_left
  · (intro w hSw; (try dsimp only at hSw); go_simp; try with_reducible rfl)
  try simp only [Act.put, List.getElem_toArray, List.getElem_cons_zero, List.getElem_cons_succ, List.setIfInBounds_toArray, List.set_cons_zero, List.set_cons_succ]
  refine wpAnyH_take (i := 13) (oi := _) (v := ?_) rfl (by kernel_rfl) (by kernel_rfl) (by kernel_rfl) (fun _ _ _ h => h) (Or.inl ⟨by rfl, ?_⟩) (by assumption) ?_
  rotate_left
  · (intro w hSw; (try dsimp only at hSw); go_simp; try with_reducible rfl)
  try simp only [Act.put, List.getElem_toArray, List.getElem_cons_zero, List.getElem_cons_succ, List.setIfInBounds_toArray, List.set_cons_zero, List.set_cons_succ]
  refine wpAnyH_take (i := 14) (oi := _) (v := ?_) rfl (by kernel_rfl) (by kernel_rfl) (by kernel_rfl) (fun _ _ _ h => h) (Or.inl ⟨by rfl, ?_⟩) (by assumption) ?_
  rotate_left
  · (intro w hSw; (try dsimp only at hSw); go_simp; try with_reducible rfl)
  try simp only [Act.put, List.getElem_toArray, List.getElem_cons_zero, List.getElem_cons_succ, List.setIfInBounds_toArray, List.set_cons_zero, List.set_cons_succ]
  refine wpAnyH_take (i := 15) (oi := _) (v := ?_) rfl (by kernel_rfl) (by kernel_rfl) (by kernel_rfl) (fun _ _ _ h => h) (Or.inl ⟨by rfl, ?_⟩) (by assumption) ?_
  rotate_left
  · (intro w hSw; (try dsimp only at hSw); go_simp; try with_reducible rfl)
  try simp only [Act.put, List.getElem_toArray, List.getElem_cons_zero, List.getElem_cons_succ, List.setIfInBounds_toArray, List.set_cons_zero, List.set_cons_succ]
  refine wpAnyH_take (i := 16) (oi := _) (v := ?_) rfl (by kernel_rfl) (by kernel_rfl) (by kernel_rfl) (fun _ _ _ h => h) (Or.inl ⟨by rfl, ?_⟩) (by assumption) ?_
  rotate_left
  · (intro w hSw; (try dsimp only at hSw); go_simp; try with_reducible rfl)
  try simp only [Act.put, List.getElem_toArray, List.getElem_cons_zero, List.getElem_cons_succ, List.setIfInBounds_toArray, List.set_cons_zero, List.set_cons_succ]
  refine wpAnyH_take (i := 17) (oi := _) (v := ?_) rfl (by kernel_rfl) (by kernel_rfl) (by kernel_rfl) (fun _ _ _ h => h) (Or.inl ⟨by rfl, ?_⟩) (by assumption) ?_
  rotate_left
  · (intro w hSw; (try dsimp only at hSw); go_simp; try with_reducible rfl)
  try simp only [Act.put, List.getElem_toArray, List.getElem_cons_zero, List.getElem_cons_succ, List.setIfInBounds_toArray, List.set_cons_zero, List.set_cons_succ]
  refine wpAnyH_take (i := 18) (oi := _) (v := ?_) rfl (by kernel_rfl) (by kernel_rfl) (by kernel_rfl) (fun _ _ _ h => h) (Or.inl ⟨by rfl, ?_⟩) (by assumption) ?_
  rotate_left
  · (intro w hSw; (try dsimp only at hSw); go_simp; try with_reducible rfl)
  try simp only [Act.put, List.getElem_toArray, List.getElem_cons_zero, List.getElem_cons_succ, List.setIfInBounds_toArray, List.set_cons_zero, List.set_cons_succ]
  refine wpAnyH_take (i := 19) (oi := _) (v := ?_) rfl (by kernel_rfl) (by kernel_rfl) (by kernel_rfl) (fun _ _ _ h => h) (Or.inl ⟨by rfl, ?_⟩) (by assumption) ?_
  rotate_left
  · (intro w hSw; (try dsimp only at hSw); go_simp; try with_reducible rfl)
  try simp only [Act.put, List.getElem_toArray, List.getElem_cons_zero, List.getElem_cons_succ, List.setIfInBounds_toArray, List.set_cons_zero, List.set_cons_succ]
  refine wpAnyH_take (i := 20) (oi := _) (v := ?_) rfl (by kernel_rfl) (by kernel_rfl) (by kernel_rfl) (fun _ _ _ h => h) (Or.inl ⟨by rfl, ?_⟩) (by assumption) ?_
  rotate_left
  · (intro w hSw; (try dsimp only at hSw); go_simp; try with_reducible rfl)
  try simp only [Act.put, List.getElem_toArray, List.getElem_cons_zero, List.getElem_cons_succ, List.setIfInBounds_toArray, List.set_cons_zero, List.set_cons_succ]
  refine wpAnyH_take (i := 21) (oi := _) (v := ?_) rfl (by kernel_rfl) (by kernel_rfl) (by kernel_rfl) (fun _ _ _ h => h) (Or.inl ⟨by rfl, ?_⟩) (by assumption) ?_
  rotate_left
  · (intro w hSw; (try dsimp only at hSw); go_simp; try with_reducible rfl)
  try simp only [Act.put, List.getElem_toArray, List.getElem_cons_zero, List.getElem_cons_succ, List.setIfInBounds_toArray, List.set_cons_zero, List.set_cons_succ]
  refine wpAnyH_take (i := 22) (oi := _) (v := ?_) rfl (by kernel_rfl) (by kernel_rfl) (by kernel_rfl) (fun _ _ _ h => h) (Or.inl ⟨by rfl, ?_⟩) (by assumption) ?_
  rotate_left
  · (intro w hSw; (try dsimp only at hSw); go_simp; try with_reducible rfl)
  try simp only [Act.put, List.getElem_toArray, List.getElem_cons_zero, List.getElem_cons_succ, List.setIfInBounds_toArray, List.set_cons_zero, List.set_cons_succ]
  refine wpAnyH_take (i := 23) (oi := _) (v := ?_) rfl (by kernel_rfl) (by kernel_rfl) (by kernel_rfl) (fun _ _ _ h => h) (Or.inl ⟨by rfl, ?_⟩) (by assumption) ?_
  rotate_left
  · (intro w hSw; (try dsimp only at hSw); go_simp; try with_reducible rfl)
  try simp only [Act.put, List.getElem_toArray, List.getElem_cons_zero, List.getElem_cons_succ, List.setIfInBounds_toArray, List.set_cons_zero, List.set_cons_succ]
  refine wpAnyH_take (i := 24) (oi := _) (v := ?_) rfl (by kernel_rfl) (by kernel_rfl) (by kernel_rfl) (fun _ _ _ h => h) (Or.inl ⟨by rfl, ?_⟩) (by assumption) ?_
  rotate_left
  · (intro w hSw; (try dsimp only at hSw); go_simp; try with_reducible rfl)
  try simp only [Act.put, List.getElem_toArray, List.getElem_cons_zero, List.getElem_cons_succ, List.setIfInBounds_toArray, List.set_cons_zero, List.set_cons_succ]
  refine wpAnyH_done (by kernel_rfl) ?_ _
  generalize World.drew _ = W at hs ⊢
  have HS := Lib.hid hs
  have hb98 : W.heap[q]? = some (.cells (wcells (wordsN bs 64)) 98 (0, 0)) := hs.head
  have hsz : (Tryd.prog.info? 98).map (·.size) = some (wcells (wordsN bs 64)).size := by rw [info98, wcells_size (by rw [wordsN_len]; omega)]
  clear hs hHeld
  have hbit : ∀ x, x = wcells (wordsN bs 64) → x.size = 80 := fun x h => by rw [h]; exact wcells_size (by rw [wordsN_len]; omega)
  obtain ⟨WC, hWC⟩ : ∃ c, c = wcells (wordsN bs 64) := ⟨_, rfl⟩
  have HWC := Lib.hid hWC
  have hws := hbit WC hWC
  rw [← hWC] at HS hb98 hsz
  clear hWC hbit
  go_upto_block 4 with (refine wpList_load_row rfl 98 (.tmp 4) rfl q rfl 98 WC (0, 0) _ hb98 Tryd.underlying98 rfl hsz ?_)
  clear hb98 hsz
  go_cut [7, 8, 9, 10, 11] (fun va vb vc vd ve wx => ∃ y : S5, va = wv y.a ∧ vb = wv y.b ∧ vc = wv y.c ∧ vd = wv y.d ∧ ve = wv y.e ∧ Hid (y = roundsN (wordsN bs 64) ⟨s0, s1, s2, s3, s4⟩ 80) ∧ wx = W)
  case first =>
    go_wp2_with fail
    go_loopw [7, 8, 9, 10, 11, 104] (fun va vb vc vd ve iv wr => ∃ (t : Nat) (y : S5), t ≤ 80 ∧ iv = .int .i64 t ∧ va = wv y.a ∧ vb = wv y.b ∧ vc = wv y.c ∧ vd = wv y.d ∧ ve = wv y.e ∧ Hid (y = roundsN (wordsN bs 64) ⟨s0, s1, s2, s3, s4⟩ t) ∧ wr = W) (fun _ _ _ _ _ iv _ => 80 - (intOf iv).toNat)
    case atStart => exact ⟨0, ⟨s0, s1, s2, s3, s4⟩, by omega, rfl, rfl, rfl, rfl, rfl, rfl, Lib.hid rfl, rfl⟩
    case round =>
      obtain ⟨t, ⟨a, b, c', d, e⟩, ht, rfl, rfl, rfl, rfl, rfl, rfl, HY, rfl⟩ := hrel
      dsimp only
      by_cases hlt : t < 80
      rotate_left
      · obtain rfl : t = 80 := by omega
        clear hlt
        go_wp2
        go_meet
        exact ⟨⟨a, b, c', d, e⟩, rfl, rfl, rfl, rfl, rfl, HY, rfl⟩
      obtain ⟨x, hx⟩ : ∃ x, x = (wordsN bs 64).getD t 0 := ⟨_, rfl⟩
      have hxc : WC[t]? = some (wv x) := by rw [HWC.out, hx]; exact wcells_get (by rw [wordsN_len]; omega)
      have HN := Lib.hid (show roundsN (wordsN bs 64) ⟨s0, s1, s2, s3, s4⟩ (t + 1) = ⟨rot 5 a + fP t b c' d + e + kT t + x, a, rot 30 b, c', d⟩ by
        show roundS t _ _ = _
        rw [← HY.out, ← hx]
        rfl)
      have htl : (t : Int) < 80 := by omega
      have hxg : ∀ w, (Instr.index 98 (.agg WC) (.int .i64 t)).run Tryd.prog w = .ok (wv x) w := fun w => index98 hlt hxc w
      clear hxc
      clear HY hx
      have HC5 := Lib.hid (show ∀ w, Calls Tryd.prog 87 #[wv a, .int .i64 5] w fun e w' => e = .returned (wv (rot 5 a)) ∧ w' = w from fun w => rotP 5 (.inr (.inl rfl)) a w)
      have HC30 := Lib.hid (show ∀ w, Calls Tryd.prog 87 #[wv b, .int .i64 30] w fun e w' => e = .returned (wv (rot 30 b)) ∧ w' = w from fun w => rotP 30 (.inr (.inr rfl)) b w)
      generalize rot 5 a = r5 at HC5 HN
      generalize rot 30 b = r30 at HC30 HN
      go_upto_region 15 with fail
      by_cases h0 : t < 20
      · have hf : fP t b c' d = d ^^^ (b &&& (c' ^^^ d)) := by unfold fP; rw [if_pos h0]
        have hk : kT t = 1518500249#32 := by unfold kT; rw [if_pos h0]
        replace HN := Lib.hid (by have := HN.out; rw [hf, hk] at this; exact this)
        have hq1 : (t : Int).tdiv 20 = 0 := by rw [Int.tdiv_eq_ediv_of_nonneg (by omega)]; omega
        have hq2 : IntKind.i64.wrap ((t : Int).tdiv 20) = 0 := by rw [hq1]; rfl
        have hq3 : (t : Int) / 20 = 0 := by omega
        clear hf hk
        have hxx1 := wi_xor c' d
        have hxx2 := wi_and b (c' ^^^ d)
        have hxx3 := wi_xor d (b &&& (c' ^^^ d))
        generalize d ^^^ (b &&& (c' ^^^ d)) = f at hxx3 HN
        generalize b &&& (c' ^^^ d) = z2 at hxx2 hxx3
        generalize c' ^^^ d = z1 at hxx1 hxx2
        have hm1 := wi_add r5 f
        have hm2 := wi_add (r5 + f) e
        have hm3 : (wi (r5 + f + e) + 1518500249) % 4294967296 = wi (r5 + f + e + 1518500249#32) := wi_add (r5 + f + e) 1518500249#32
        have hm4 := wi_add (r5 + f + e + 1518500249#32) x
        generalize r5 + f + e + 1518500249#32 + x = v4 at hm4 HN
        generalize r5 + f + e + 1518500249#32 = v3 at hm3 hm4
        generalize r5 + f + e = v2 at hm2 hm3
        generalize r5 + f = v1 at hm1 hm2
        have hn1 := (u32_mod (wi r5 + wi f)).trans hm1
        have hn2 := (u32_mod (wi v1 + wi e)).trans hm2
        have hn3 := (u32_mod (wi v2 + 1518500249)).trans hm3
        have hn4 := (u32_mod (wi v3 + wi x)).trans hm4
        clear h0
        go_wp2_with fail
        go_at_call 87
        refine (HC5.out _).mono ?_
        rintro e' w' ⟨rfl, rfl⟩
        go_wp2_with fail
        go_at_call 87
        refine (HC30.out _).mono ?_
        rintro e' w' ⟨rfl, rfl⟩
        go_wp2
        go_roundw
        case rel => exact ⟨t + 1, ⟨v4, a, r30, c', d⟩, by omega, by go_num, rfl, rfl, rfl, rfl, rfl, Lib.hid HN.out.symm, trivial⟩
        case measure => simp [intOf]; omega
      by_cases h1 : t < 40
      · have hf : fP t b c' d = (b ^^^ c') ^^^ d := by unfold fP; rw [if_neg h0, if_pos h1]
        have hk : kT t = 1859775393#32 := by unfold kT; rw [if_neg h0, if_pos h1]
        replace HN := Lib.hid (by have := HN.out; rw [hf, hk] at this; exact this)
        have hq1 : (t : Int).tdiv 20 = 1 := by rw [Int.tdiv_eq_ediv_of_nonneg (by omega)]; omega
        have hq2 : IntKind.i64.wrap ((t : Int).tdiv 20) = 1 := by rw [hq1]; rfl
        have hq3 : (t : Int) / 20 = 1 := by omega
        clear hf hk
        have hxx1 := wi_xor b c'
        have hxx2 := wi_xor (b ^^^ c') d
        generalize (b ^^^ c') ^^^ d = f at hxx2 HN
        generalize b ^^^ c' = z1 at hxx1 hxx2
        have hm1 := wi_add r5 f
        have hm2 := wi_add (r5 + f) e
        have hm3 : (wi (r5 + f + e) + 1859775393) % 4294967296 = wi (r5 + f + e + 1859775393#32) := wi_add (r5 + f + e) 1859775393#32
        have hm4 := wi_add (r5 + f + e + 1859775393#32) x
        generalize r5 + f + e + 1859775393#32 + x = v4 at hm4 HN
        generalize r5 + f + e + 1859775393#32 = v3 at hm3 hm4
        generalize r5 + f + e = v2 at hm2 hm3
        generalize r5 + f = v1 at hm1 hm2
        have hn1 := (u32_mod (wi r5 + wi f)).trans hm1
        have hn2 := (u32_mod (wi v1 + wi e)).trans hm2
        have hn3 := (u32_mod (wi v2 + 1859775393)).trans hm3
        have hn4 := (u32_mod (wi v3 + wi x)).trans hm4
        clear h0 h1
        go_wp2_with fail
        go_at_call 87
        refine (HC5.out _).mono ?_
        rintro e' w' ⟨rfl, rfl⟩
        go_wp2_with fail
        go_at_call 87
        refine (HC30.out _).mono ?_
        rintro e' w' ⟨rfl, rfl⟩
        go_wp2
        go_roundw
        case rel => exact ⟨t + 1, ⟨v4, a, r30, c', d⟩, by omega, by go_num, rfl, rfl, rfl, rfl, rfl, Lib.hid HN.out.symm, trivial⟩
        case measure => simp [intOf]; omega
      by_cases h2 : t < 60
      · have hf : fP t b c' d = (b &&& c') ||| (d &&& (b ||| c')) := by unfold fP; rw [if_neg h0, if_neg h1, if_pos h2]
        have hk : kT t = 2400959708#32 := by unfold kT; rw [if_neg h0, if_neg h1, if_pos h2]
        replace HN := Lib.hid (by have := HN.out; rw [hf, hk] at this; exact this)
        have hq1 : (t : Int).tdiv 20 = 2 := by rw [Int.tdiv_eq_ediv_of_nonneg (by omega)]; omega
        have hq2 : IntKind.i64.wrap ((t : Int).tdiv 20) = 2 := by rw [hq1]; rfl
        have hq3 : (t : Int) / 20 = 2 := by omega
        clear hf hk
        have hxx1 := wi_and b c'
        have hxx2 := wi_or b c'
        have hxx3 := wi_and d (b ||| c')
        have hxx4 := wi_or (b &&& c') (d &&& (b ||| c'))
        generalize (b &&& c') ||| (d &&& (b ||| c')) = f at hxx4 HN
        generalize d &&& (b ||| c') = z3 at hxx3 hxx4
        generalize b ||| c' = z2 at hxx2 hxx3
        generalize b &&& c' = z1 at hxx1 hxx4
        have hm1 := wi_add r5 f
        have hm2 := wi_add (r5 + f) e
        have hm3 : (wi (r5 + f + e) + 2400959708) % 4294967296 = wi (r5 + f + e + 2400959708#32) := wi_add (r5 + f + e) 2400959708#32
        have hm4 := wi_add (r5 + f + e + 2400959708#32) x
        generalize r5 + f + e + 2400959708#32 + x = v4 at hm4 HN
        generalize r5 + f + e + 2400959708#32 = v3 at hm3 hm4
        generalize r5 + f + e = v2 at hm2 hm3
        generalize r5 + f = v1 at hm1 hm2
        have hn1 := (u32_mod (wi r5 + wi f)).trans hm1
        have hn2 := (u32_mod (wi v1 + wi e)).trans hm2
        have hn3 := (u32_mod (wi v2 + 2400959708)).trans hm3
        have hn4 := (u32_mod (wi v3 + wi x)).trans hm4
        clear h0 h1 h2
        go_wp2_with fail
        go_at_call 87
        refine (HC5.out _).mono ?_
        rintro e' w' ⟨rfl, rfl⟩
        go_wp2_with fail
        go_at_call 87
        refine (HC30.out _).mono ?_
        rintro e' w' ⟨rfl, rfl⟩
        go_wp2
        go_roundw
        case rel => exact ⟨t + 1, ⟨v4, a, r30, c', d⟩, by omega, by go_num, rfl, rfl, rfl, rfl, rfl, Lib.hid HN.out.symm, trivial⟩
        case measure => simp [intOf]; omega
      · have hf : fP t b c' d = (b ^^^ c') ^^^ d := by unfold fP; rw [if_neg h0, if_neg h1, if_neg h2]
        have hk : kT t = 3395469782#32 := by unfold kT; rw [if_neg h0, if_neg h1, if_neg h2]
        replace HN := Lib.hid (by have := HN.out; rw [hf, hk] at this; exact this)
        have hq1 : (t : Int).tdiv 20 = 3 := by rw [Int.tdiv_eq_ediv_of_nonneg (by omega)]; omega
        have hq2 : IntKind.i64.wrap ((t : Int).tdiv 20) = 3 := by rw [hq1]; rfl
        have hq3 : (t : Int) / 20 = 3 := by omega
        clear hf hk
        have hxx1 := wi_xor b c'
        have hxx2 := wi_xor (b ^^^ c') d
        generalize (b ^^^ c') ^^^ d = f at hxx2 HN
        generalize b ^^^ c' = z1 at hxx1 hxx2
        have hm1 := wi_add r5 f
        have hm2 := wi_add (r5 + f) e
        have hm3 : (wi (r5 + f + e) + 3395469782) % 4294967296 = wi (r5 + f + e + 3395469782#32) := wi_add (r5 + f + e) 3395469782#32
        have hm4 := wi_add (r5 + f + e + 3395469782#32) x
        generalize r5 + f + e + 3395469782#32 + x = v4 at hm4 HN
        generalize r5 + f + e + 3395469782#32 = v3 at hm3 hm4
        generalize r5 + f + e = v2 at hm2 hm3
        generalize r5 + f = v1 at hm1 hm2
        have hn1 := (u32_mod (wi r5 + wi f)).trans hm1
        have hn2 := (u32_mod (wi v1 + wi e)).trans hm2
        have hn3 := (u32_mod (wi v2 + 3395469782)).trans hm3
        have hn4 := (u32_mod (wi v3 + wi x)).trans hm4
        clear h0 h1 h2
        go_wp2_with fail
        go_at_call 87
        refine (HC5.out _).mono ?_
        rintro e' w' ⟨rfl, rfl⟩
        go_wp2_with fail
        go_at_call 87
        refine (HC30.out _).mono ?_
        rintro e' w' ⟨rfl, rfl⟩
        go_wp2
        go_roundw
        case rel => exact ⟨t + 1, ⟨v4, a, r30, c', d⟩, by omega, by go_num, rfl, rfl, rfl, rfl, rfl, Lib.hid HN.out.symm, trivial⟩
        case measure => simp [intOf]; omega
  case rest =>
  obtain ⟨⟨a, b, c', d, e⟩, rfl, rfl, rfl, rfl, rfl, HY, rfl⟩ := hcut
  dsimp only
  go_upto_block 6 with fail
  have HS0 := Lib.hid HS.out.drop
  clear HS
  go_wp2_with fail
  go_loopw [164] (fun iv wr => ∃ t : Nat, t ≤ 5 ∧ iv = .int .i64 t ∧ Hid (St I (bk hb 106 (st5 (addN ⟨s0, s1, s2, s3, s4⟩ ⟨a, b, c', d, e⟩ t)) :: M) wr)) (fun iv _ => 5 - (intOf iv).toNat)
  case atStart => exact ⟨0, by omega, rfl, HS0⟩
  case round =>
    obtain ⟨t, ht, rfl, HSr⟩ := hrel
    clear HS0
    by_cases hlt : t < 5
    rotate_left
    · obtain rfl : t = 5 := by omega
      clear hlt
      go_wp2
      go_end0
      exact Ret.mk (.refl I) HSr.out ⟨rfl, by unfold blockS; rw [← HY.out]⟩
    have h5 : t = 0 ∨ t = 1 ∨ t = 2 ∨ t = 3 ∨ t = 4 := by omega
    clear ht hlt
    rcases h5 with rfl | rfl | rfl | rfl | rfl
    · have hix : ∀ w, (Instr.index 97 (.agg #[wv a, wv b, wv c', wv d, wv e]) (.int .i64 0)).run Tryd.prog w = .ok (wv a) w := fun w => index97 (t := 0) (by omega) rfl w
      have hm1 := (u32_mod (wi s0 + wi a)).trans (wi_add s0 a)
      generalize hv : s0 + a = v at hm1
      have HV := Lib.hid hv
      clear hv
      go_upto_region 28 with fail
      have hc1 : wr.drew.cell? ⟨hb, 0, none⟩ = some (wv s0) := Blk.cell HSr.out.drew.head 0
      have hf1 := Blk.frozen (show Blk wr.drew hb 106 _ from HSr.out.drew.head) 0
      go_region
      have HS9 := Lib.hid ((HSr.out.set 0 (wv v)).drew)
      clear HSr hc1 hf1
      go_wp2
      go_roundw
      case rel => exact ⟨1, by omega, by go_num, by have h := HS9; rw [← HV.out] at h ⊢; exact h⟩
      case measure => simp [intOf]
    · have hix : ∀ w, (Instr.index 97 (.agg #[wv a, wv b, wv c', wv d, wv e]) (.int .i64 1)).run Tryd.prog w = .ok (wv b) w := fun w => index97 (t := 1) (by omega) rfl w
      have hm1 := (u32_mod (wi s1 + wi b)).trans (wi_add s1 b)
      generalize hv : s1 + b = v at hm1
      have HV := Lib.hid hv
      clear hv
      go_upto_region 28 with fail
      have hc1 : wr.drew.cell? ⟨hb, 1, none⟩ = some (wv s1) := Blk.cell HSr.out.drew.head 1
      have hf1 := Blk.frozen (show Blk wr.drew hb 106 _ from HSr.out.drew.head) 1
      go_region
      have HS9 := Lib.hid ((HSr.out.set 1 (wv v)).drew)
      clear HSr hc1 hf1
      go_wp2
      go_roundw
      case rel => exact ⟨2, by omega, by go_num, by have h := HS9; rw [← HV.out] at h ⊢; exact h⟩
      case measure => simp [intOf]
    · have hix : ∀ w, (Instr.index 97 (.agg #[wv a, wv b, wv c', wv d, wv e]) (.int .i64 2)).run Tryd.prog w = .ok (wv c') w := fun w => index97 (t := 2) (by omega) rfl w
      have hm1 := (u32_mod (wi s2 + wi c')).trans (wi_add s2 c')
      generalize hv : s2 + c' = v at hm1
      have HV := Lib.hid hv
      clear hv
      go_upto_region 28 with fail
      have hc1 : wr.drew.cell? ⟨hb, 2, none⟩ = some (wv s2) := Blk.cell HSr.out.drew.head 2
      have hf1 := Blk.frozen (show Blk wr.drew hb 106 _ from HSr.out.drew.head) 2
      go_region
      have HS9 := Lib.hid ((HSr.out.set 2 (wv v)).drew)
      clear HSr hc1 hf1
      go_wp2
      go_roundw
      case rel => exact ⟨3, by omega, by go_num, by have h := HS9; rw [← HV.out] at h ⊢; exact h⟩
      case measure => simp [intOf]
    · have hix : ∀ w, (Instr.index 97 (.agg #[wv a, wv b, wv c', wv d, wv e]) (.int .i64 3)).run Tryd.prog w = .ok (wv d) w := fun w => index97 (t := 3) (by omega) rfl w
      have hm1 := (u32_mod (wi s3 + wi d)).trans (wi_add s3 d)
      generalize hv : s3 + d = v at hm1
      have HV := Lib.hid hv
      clear hv
      go_upto_region 28 with fail
      have hc1 : wr.drew.cell? ⟨hb, 3, none⟩ = some (wv s3) := Blk.cell HSr.out.drew.head 3
      have hf1 := Blk.frozen (show Blk wr.drew hb 106 _ from HSr.out.drew.head) 3
      go_region
      have HS9 := Lib.hid ((HSr.out.set 3 (wv v)).drew)
      clear HSr hc1 hf1
      go_wp2
      go_roundw
      case rel => exact ⟨4, by omega, by go_num, by have h := HS9; rw [← HV.out] at h ⊢; exact h⟩
      case measure => simp [intOf]
    · have hix : ∀ w, (Instr.index 97 (.agg #[wv a, wv b, wv c', wv d, wv e]) (.int .i64 4)).run Tryd.prog w = .ok (wv e) w := fun w => index97 (t := 4) (by omega) rfl w
      have hm1 := (u32_mod (wi s4 + wi e)).trans (wi_add s4 e)
      generalize hv : s4 + e = v at hm1
      have HV := Lib.hid hv
      clear hv
      go_upto_region 28 with fail
      have hc1 : wr.drew.cell? ⟨hb, 4, none⟩ = some (wv s4) := Blk.cell HSr.out.drew.head 4
      have hf1 := Blk.frozen (show Blk wr.drew hb 106 _ from HSr.out.drew.head) 4
      go_region
      have HS9 := Lib.hid ((HSr.out.set 4 (wv v)).drew)
      clear HSr hc1 hf1
      go_wp2
      go_roundw
      case rel => exact ⟨5, by omega, by go_num, by have h := HS9; rw [← HV.out] at h ⊢; exact h⟩
      case measure => simp [intOf]
end Go.Proofs.YtakgdmcekhafoaaDoor
