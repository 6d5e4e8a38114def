/- token.Hex. -/
import Derived.Test.YtakgdmcekhafoaaDoorToE
import Derived.Test.YtakgdmcekhafoaaDoorBuB
namespace Go.Proofs.YtakgdmcekhafoaaDoor
open Go.RowKit
set_option linter.unusedSimpArgs false

def digH (n : Nat) : UInt8 := UInt8.ofNat (if n < 10 then 48 + n else 87 + n)
def hexOf : List UInt8 → List UInt8
  | [] => []
  | x :: r => digH (x.toNat / 16) :: digH (x.toNat % 16) :: hexOf r
theorem hexOf_len : ∀ l, (hexOf l).length = 2 * l.length
  | [] => rfl
  | x :: r => by simp only [hexOf, List.length_cons, hexOf_len r]; omega
theorem hexOf_app : ∀ a b, hexOf (a ++ b) = hexOf a ++ hexOf b
  | [], _ => rfl
  | x :: r, b => by simp only [List.cons_append, hexOf, hexOf_app r b]
theorem take_hex {l : List UInt8} {k : Nat} (h : k < l.length) : hexOf (l.take (k + 1)) = hexOf (l.take k) ++ [digH (l[k].toNat / 16)] ++ [digH (l[k].toNat % 16)] := by
  rw [List.take_succ_eq_append_getElem h, hexOf_app]
  simp [hexOf]
theorem u8_and15 (x : UInt8) : bits .and .u8 (x.toNat : Int) 15 = (x.toNat : Int) % 16 := by
  show IntKind.u8.wrap ((BitVec.ofInt 8 (x.toNat : Int) &&& BitVec.ofInt 8 15).toNat : Int) = _
  rw [BitVec.ofInt_natCast, u8_mod, BitVec.toNat_and, BitVec.toNat_ofNat]
  have hx := x.toNat_lt
  have h15 : (BitVec.ofInt 8 15).toNat = 2 ^ 4 - 1 := by decide
  rw [h15, Nat.and_two_pow_sub_one_eq_mod]
  omega
theorem hexTab {n : Nat} (hn : n < 16) (h : n < (⟨#[48, 49, 50, 51, 52, 53, 54, 55, 56, 57, 97, 98, 99, 100, 101, 102]⟩ : ByteArray).size) : (⟨#[48, 49, 50, 51, 52, 53, 54, 55, 56, 57, 97, 98, 99, 100, 101, 102]⟩ : ByteArray)[n]'h = digH n := by
  have hc : n = 0 ∨ n = 1 ∨ n = 2 ∨ n = 3 ∨ n = 4 ∨ n = 5 ∨ n = 6 ∨ n = 7 ∨ n = 8 ∨ n = 9 ∨ n = 10 ∨ n = 11 ∨ n = 12 ∨ n = 13 ∨ n = 14 ∨ n = 15 := by omega
  rcases hc with rfl | rfl | rfl | rfl | rfl | rfl | rfl | rfl | rfl | rfl | rfl | rfl | rfl | rfl | rfl | rfl <;> rfl
set_option maxRecDepth 8000 in
set_option maxHeartbeats 4000000 in
theorem hexP (I : Img) (M : List Res) (w : World) (A : Option Addr) (c : Nat) (l : List UInt8) (hst : St I M w) (hl : Byts I A l) (hn : l.length ≤ 1000) :
    Calls Tryd.prog 35 #[.slice A l.length c] w (Ret I (fun v J M' => I = J ∧ v = .string (bsA (hexOf l)) ∧ M' = M)) := by
  obtain ⟨N0, hs, hb0⟩ := Bld.new hst
  have HST := Lib.hid hst
  have HBY := Lib.hid hl
  obtain ⟨b, hb⟩ : ∃ b, b = w.heap.size := ⟨_, rfl⟩
  have HB := Lib.hid hb
  rw [← hb] at hb0
  clear hst hl
  go_enter Tryd.func35, Tryd.ntmps35
  go_upto_block 0 with fail
  rw [← hb]
  clear hb
  generalize World.alloc _ _ = W0 at hs ⊢
  have HS := Lib.hid (show ∃ N, St I N W0 ∧ Bld b b (hexOf (l.take 0)) M N from ⟨_, hs, hb0⟩)
  clear hs hb0
  go_wp2_with fail
  go_loopw [8] (fun kv wr => ∃ k : Nat, k ≤ l.length ∧ kv = .int .i64 k ∧ Hid (∃ N, St I N wr ∧ Bld b b (hexOf (l.take k)) M N)) (fun kv _ => l.length - (intOf kv).toNat)
  case atStart => exact ⟨0, Nat.zero_le _, rfl, HS⟩
  case round =>
    obtain ⟨k, hk, rfl, HSr⟩ := hrel
    clear HS
    by_cases hlt : k < l.length
    rotate_left
    · obtain rfl : k = l.length := by omega
      obtain ⟨N, hs, hb⟩ := HSr.out
      rw [List.take_of_length_le (Nat.le_refl _)] at hb
      have HC := Lib.hid (stringC I M N w _ b (hexOf l) HST.out hs (by rw [← HB.out]; exact hb) (by rw [← HB.out]; exact Nat.le_refl _))
      clear HSr hs hb hlt
      go_wp2_with fail
      go_at_call 52
      refine HC.out.mono ?_
      rintro e w2 ⟨_, _, _, rfl, _, hs2, rfl, rfl, rfl⟩
      go_wp2
      go_ret
      exact Ret.mk (.refl I) hs2 ⟨rfl, rfl, rfl⟩
    obtain ⟨N, hs, hb⟩ := HSr.out
    have HTK := Lib.hid (take_hex hlt)
    obtain ⟨g, o, rfl, hc⟩ := Byts.at HBY.out (by omega)
    have y0 := hc N _ hs k hlt
    have hx := (l[k]).toNat_lt
    have hzl : (hexOf (l.take k)).length ≤ 2000 := by rw [hexOf_len, List.length_take]; omega
    generalize l[k] = x at HTK y0 hx
    have h1 : (x.toNat : Int) / 16 < 16 := by omega
    have h2 : (x.toNat : Int) % 16 < 16 := by omega
    have h3 := u8_and15 x
    obtain ⟨d1, hd1⟩ : ∃ d, d = digH (x.toNat / 16) := ⟨_, rfl⟩
    obtain ⟨d2, hd2⟩ : ∃ d, d = digH (x.toNat % 16) := ⟨_, rfl⟩
    have h4 : ∀ h, (⟨#[48, 49, 50, 51, 52, 53, 54, 55, 56, 57, 97, 98, 99, 100, 101, 102]⟩ : ByteArray)[x.toNat / 16]'h = d1 := fun h => by rw [hd1]; exact hexTab (by omega) h
    have h5 : ∀ h, (⟨#[48, 49, 50, 51, 52, 53, 54, 55, 56, 57, 97, 98, 99, 100, 101, 102]⟩ : ByteArray)[x.toNat % 16]'h = d2 := fun h => by rw [hd2]; exact hexTab (by omega) h
    rw [← hd1, ← hd2] at HTK
    have HC := Lib.hid (writeByteC I M N _ b b _ d1 hs hb (Nat.le_refl _) (by omega))
    have HZ := Lib.hid hzl
    clear HSr hs hb hd1 hd2 hzl
    go_wp2_with fail
    go_at_call 51
    refine HC.out.mono ?_
    clear HC
    rintro e w2 ⟨_, _, N2, rfl, _, hs2, rfl, hb2⟩
    have HC := Lib.hid (writeByteC I M N2 _ b b _ d2 hs2 hb2 (Nat.le_refl _) (by have := HZ.out; rw [List.length_append]; show _ + 1 + 1 ≤ _; omega))
    clear hs2 hb2
    go_wp2_with fail
    go_at_call 51
    refine HC.out.mono ?_
    clear HC
    rintro e w3 ⟨_, _, N3, rfl, _, hs3, rfl, hb3⟩
    have HS3 := Lib.hid (show ∃ N, St I N w3 ∧ Bld b b (hexOf (l.take (k + 1))) M N from ⟨N3, hs3, by rw [HTK.out]; exact hb3⟩)
    clear hs3 hb3
    go_wp2
    go_roundw
    case rel => exact ⟨k + 1, by omega, by go_num, HS3⟩
    case measure => simp [intOf]; omega
end Go.Proofs.YtakgdmcekhafoaaDoor
