/- HMAC's pads, plain. -/
import Derived.Test.YtakgdmcekhafoaaDoorCp
namespace Go.Proofs.YtakgdmcekhafoaaDoor
open Go.RowKit
set_option linter.unusedSimpArgs false

def pk64 (sk : List UInt8) : List UInt8 := sk ++ List.replicate (64 - sk.length) 0
theorem pk64_len {sk : List UInt8} (h : sk.length ≤ 64) : (pk64 sk).length = 64 := by
  unfold pk64
  rw [List.length_append, List.length_replicate]
  omega
def xorB (i : Nat) : UInt8 := if i = 0 then 54 else 92
def preP (sk : List UInt8) (i : Nat) : List UInt8 := if i = 0 then [] else if i = 1 then (pk64 sk).map (· ^^^ 54) else (pk64 sk).map (· ^^^ 54) ++ (pk64 sk).map (· ^^^ 92)
theorem preP_len {sk : List UInt8} (h : sk.length ≤ 64) {i : Nat} (hi : i ≤ 2) : (preP sk i).length = 64 * i := by
  have hc : i = 0 ∨ i = 1 ∨ i = 2 := by omega
  rcases hc with rfl | rfl | rfl <;> simp [preP, pk64_len h]
def padsAt (sk : List UInt8) (i : Nat) : List UInt8 := preP sk i ++ List.replicate (128 - 64 * i) 0
def midP (sk : List UInt8) (i j : Nat) : List UInt8 := preP sk i ++ (((pk64 sk).take j).map (· ^^^ xorB i) ++ ((pk64 sk).drop j ++ List.replicate (64 - 64 * i) 0))
theorem mid_end {sk : List UInt8} (h : sk.length ≤ 64) {i : Nat} (hi : i < 2) : midP sk i 64 = padsAt sk (i + 1) := by
  have hl := pk64_len h
  have hc : i = 0 ∨ i = 1 := by omega
  rcases hc with rfl | rfl <;> simp [midP, padsAt, preP, xorB, List.take_of_length_le, List.drop_of_length_le, hl]
theorem mid_get {sk : List UInt8} (h : sk.length ≤ 64) {i j : Nat} (hi : i < 2) (hj : j < 64) : (midP sk i j)[64 * i + j]? = some ((pk64 sk).getD j 0) := by
  have hl := pk64_len h
  have hp := preP_len h (show i ≤ 2 by omega)
  have ht : (((pk64 sk).take j).map (· ^^^ xorB i)).length = j := by rw [List.length_map, List.length_take]; omega
  unfold midP
  rw [List.getElem?_append_right (by omega), List.getElem?_append_right (by omega), hp, ht, show 64 * i + j - 64 * i - j = 0 by omega, List.getElem?_append_left (by rw [List.length_drop]; omega)]
  simp [hl, hj]
theorem mid_set {sk : List UInt8} (h : sk.length ≤ 64) {i j : Nat} (hi : i < 2) (hj : j < 64) : (midP sk i j).set (64 * i + j) ((pk64 sk).getD j 0 ^^^ xorB i) = midP sk i (j + 1) := by
  have hl := pk64_len h
  have hp := preP_len h (show i ≤ 2 by omega)
  have ht : (((pk64 sk).take j).map (· ^^^ xorB i)).length = j := by rw [List.length_map, List.length_take]; omega
  have hd : (pk64 sk).drop j = (pk64 sk)[j] :: (pk64 sk).drop (j + 1) := List.drop_eq_getElem_cons (by omega)
  unfold midP
  rw [List.set_append_right _ _ (by omega), List.set_append_right _ _ (by omega), hp, ht, show 64 * i + j - 64 * i - j = 0 by omega, hd, List.cons_append, List.set_cons_zero, List.take_succ_eq_append_getElem (show j < (pk64 sk).length by omega), List.map_append, List.append_assoc]
  have e : (pk64 sk).getD j 0 = (pk64 sk)[j] := by simp [hl, hj]
  rw [e]
  rfl
theorem mid_len {sk : List UInt8} (h : sk.length ≤ 64) {i j : Nat} (hi : i < 2) (hj : j ≤ 64) : (midP sk i j).length = 128 := by
  have hl := pk64_len h
  have hp := preP_len h (show i ≤ 2 by omega)
  unfold midP
  simp only [List.length_append, List.length_map, List.length_take, List.length_drop, List.length_replicate, hl, hp]
  omega
theorem mid_splice {sk : List UInt8} (h : sk.length ≤ 64) {i : Nat} (hi : i < 2) : splice (bvs (padsAt sk i)) (64 * i) (bvs sk) = bvs (midP sk i 0) := by
  have hp := preP_len h (show i ≤ 2 by omega)
  have e1 : (padsAt sk i).take (64 * i) = preP sk i := by
    unfold padsAt
    rw [← hp]
    exact List.take_left
  have e2 : (padsAt sk i).drop (64 * i + sk.length) = List.replicate (128 - 64 * i - sk.length) 0 := by
    unfold padsAt
    rw [← hp, List.drop_append, List.drop_replicate]
    simp
  unfold splice
  rw [bvs_len]
  unfold bvs
  rw [← List.map_take, ← List.map_drop, e1, e2, ← List.map_append, ← List.map_append]
  congr 1
  unfold midP pk64
  have hc : i = 0 ∨ i = 1 := by omega
  rcases hc with rfl | rfl
  · have : 128 - sk.length = (64 - sk.length) + 64 := by omega
    have e : List.replicate (128 - 64 * 0 - sk.length) (0 : UInt8) = List.replicate (64 - sk.length) 0 ++ List.replicate (64 - 64 * 0) 0 := by rw [List.replicate_append_replicate]; congr 1
    rw [e]
    simp only [List.take_zero, List.map_nil, List.nil_append, List.drop_zero, List.append_assoc]
  · simp
theorem pads_len {sk : List UInt8} (h : sk.length ≤ 64) {i : Nat} (hi : i ≤ 2) : (padsAt sk i).length = 128 := by
  unfold padsAt
  rw [List.length_append, List.length_replicate, preP_len h hi]
  omega
theorem zero78 : Tryd.zeroCells78 = (bvs (padsAt [] 0)).toArray := by kernel_rfl
theorem pads0 (sk : List UInt8) : padsAt sk 0 = padsAt [] 0 := rfl
theorem info5m : (Tryd.prog.info? 5).map (fun i => (i.zero, i.size, i.bytes)) = some (some (.int .u8 0), 1, 1) := by kernel_rfl
theorem size5 : (Tryd.prog.info? 5).map (·.size) = some 1 := by kernel_rfl
theorem index79 {i : Nat} (hi : i < 2) (w : World) : (Instr.index 79 (.agg #[.int .u8 54, .int .u8 92]) (.int .i64 i)).run Tryd.prog w = .ok (.int .u8 (xorB i).toNat) w := by
  obtain ⟨i0, h1, hz, hs, hb⟩ := info_parts info5m
  have hc : i = 0 ∨ i = 1 := by omega
  rcases hc with rfl | rfl <;> simp [Instr.index, run_underlying Tryd.underlying79, asIntOf, sizeOf, typeInfo, h1, hz, hs, go_sem, part, isAgg, run_underlying Tryd.underlying5] <;> rfl
theorem u8_xor (a b : UInt8) : bits .xor .u8 (a.toNat : Int) (b.toNat : Int) = ((a ^^^ b).toNat : Int) := by
  show IntKind.u8.wrap ((BitVec.ofInt 8 (a.toNat : Int) ^^^ BitVec.ofInt 8 (b.toNat : Int)).toNat : Int) = _
  have h : ∀ c : UInt8, BitVec.ofInt 8 (c.toNat : Int) = c.toBitVec := fun c => by
    rw [BitVec.ofInt_natCast]
    exact BitVec.ofNat_toNat ..
  rw [h, h, u8_mod]
  have : (a.toBitVec ^^^ b.toBitVec).toNat = (a ^^^ b).toNat := rfl
  rw [this]
  have := (a ^^^ b).toNat_lt
  omega
end Go.Proofs.YtakgdmcekhafoaaDoor
