/- the references' Two, Join and Number. -/
import Derived.Test.YtpfacfolocjidaaReader
namespace Go.Proofs.Ytpfacfolocjidaa
open Go.RowKit

theorem own_new {w : World} (l : List UInt8) (h : l.length ≤ 140737488351232) : (w.alloc (.cells (bvs l).toArray 5)).ownsRow w.heap.size 5 1 (.slice (some ⟨w.heap.size, 0, none⟩) l.length l.length) l.length (bvs l) := by
  have := World.ownsRow_lit (base := w.heap.size) (e := 5) (size := 1) w (bvs l).toArray l.length (Nat.le_refl _) (by unfold maxLen; omega) (by simp [bvs])
  simpa using this

set_option maxHeartbeats 400000 in
theorem ref_two (n : Int) (w : World) (h0 : 0 ≤ n) (h1 : n < 65536) :
    Calls Try.prog 29 #[.int .i64 n] w fun e w' => e = .returned (.slice (some ⟨w.heap.size, 0, none⟩) 2 2) ∧ w' = w.alloc (.cells (bvs [byteOf (n / 256), byteOf (n % 256)]).toArray 5) := by
  have hb : (bvs [byteOf (n / 256), byteOf (n % 256)]).toArray = #[.int .u8 (n / 256), .int .u8 (n % 256)] := by simp only [bvs, List.map_cons, List.map_nil]; rw [bv_byteOf (by omega) (by omega), bv_byteOf (by omega) (by omega)]
  rw [hb]
  clear hb
  go_enter Try.func29, Try.ntmps29
  go_wp2
  go_ret
  exact ⟨rfl, rfl⟩

abbrev Part := Value × List UInt8
def PartsAt (w : World) (g : Nat) (ps : List Part) : Prop := ∀ k (h : k < ps.length), w.cell? ⟨g, k, none⟩ = some ps[k].1 ∧ ∃ A c, ps[k].1 = .slice A ps[k].2.length c ∧ Byts w A ps[k].2
def catP (ps : List Part) : List UInt8 := ps.flatMap (·.2)
theorem catP_take (ps : List Part) (k : Nat) (h : k < ps.length) : catP (ps.take (k + 1)) = catP (ps.take k) ++ ps[k].2 := by
  rw [List.take_succ_eq_append_getElem h]; simp only [catP, List.flatMap_append, List.flatMap_cons, List.flatMap_nil, List.append_nil]
theorem catP_take_le (ps : List Part) (k : Nat) : (catP (ps.take k)).length ≤ (catP ps).length := by
  have : catP ps = catP (ps.take k) ++ catP (ps.drop k) := by
    unfold catP; rw [← List.flatMap_append, List.take_append_drop]
  rw [this, List.length_append]; omega
theorem PartsAt.below {w w' : World} {g : Nat} {ps : List Part} (h : PartsAt w g ps) (hb : Below w.heap.size w w') : PartsAt w' g ps := by
  intro k hk
  obtain ⟨h1, A, c, e, hB⟩ := h k hk
  exact ⟨(hb.cell (World.block_lt_of_cell? _ _ h1)).trans h1, A, c, e, hB.below hb (Nat.le_refl _)⟩

set_option maxHeartbeats 400000 in
theorem ref_join (g cap : Nat) (ps : List Part) (w : World) (hps : PartsAt w g ps) (hm : ps.length ≤ 140737488351232) (hl : (catP ps).length ≤ 140737488351232) :
    Calls Try.prog 28 #[.slice (some ⟨g, 0, none⟩) ps.length cap] w (NewBytes (catP ps) w) := by
  obtain ⟨i0, hi, hz0, hz1, hz2⟩ := info_parts info5
  go_enter Try.func28, Try.ntmps28
  go_wp2
  go_loopw [7, 3] (fun i v wr => ∃ k : Nat, k ≤ ps.length ∧ i = .int .i64 k ∧ wr.ownsRow w.heap.size 5 1 v (catP (ps.take k)).length (bvs (catP (ps.take k))) ∧ Below w.heap.size w wr) (fun i _ _ => ps.length - (intOf i).toNat)
  case atStart => exact ⟨0, Nat.zero_le _, rfl, World.ownsRow_nil _ _ _ _, Below.refl _ _⟩
  case round =>
    obtain ⟨k, hk, rfl, hown, hb⟩ := hrel
    have hle := catP_take_le ps (k + 1)
    have HP := Lib.hid (hps.below hb)
    by_cases hlt : k < ps.length
    · obtain ⟨hc, A, c, he, hB⟩ := HP.out k hlt
      rw [he] at hc
      have hsrc := Lib.hid (hB.src (P := Try.prog) (t := 27) Try.underlying27 c)
      have ht := catP_take ps k hlt
      rw [ht, List.length_append] at hle
      have hgo : ∀ (v' : Value) (w' : World), w'.ownsRow w.heap.size 5 1 v' ((catP (ps.take k)).length + ps[k].2.length) (bvs (catP (ps.take k)) ++ bvs ps[k].2) → w'.ownsRow w.heap.size 5 1 v' (catP (ps.take (k + 1))).length (bvs (catP (ps.take (k + 1)))) := by
        intro v' w' h; rw [ht, List.length_append, bvs_append]; exact h
      have Hgo := Lib.hid hgo
      have Hb := Lib.hid hb
      have hsz := hb.size
      have hv := hown.lt
      have Hv := Lib.hid hv
      have Ho := Lib.hid hown
      clear he hB ht hgo hps hb hv hown
      go_wp2_with (at_builtin; refine wpList_append_src _ rfl _ _ 27 27 rfl w.heap.size 5 i0 (.int .u8 0) 1 1 Try.underlying27 hi hz0 hz1 hz2 rfl _ _ _ rfl Ho.out _ _ _ rfl hsrc.out (by unfold maxLen; omega) (by omega) (by omega) ?_)
      intro v' w3 hown' hgrow _
      have HO := Lib.hid (Hgo.out _ _ hown')
      have HB := Lib.hid (Hb.out.grown hgrow hsz (fun k h => (Hv.out k h).1))
      clear hown' hgrow
      go_wp2
      go_roundw
      case rel => exact ⟨k + 1, by omega, by go_num, HO.out, HB.out⟩
      case measure => simp [intOf]; omega
    · rw [List.take_of_length_le (by omega)] at hown
      have Ho := Lib.hid hown
      have Hb := Lib.hid hb
      clear hown hb
      go_wp2
      go_ret
      exact ⟨_, rfl, Ho.out, Hb.out⟩

theorem or_u64 (q x : Nat) (hx : x < 256) (hq : q < 72057594037927936) : bits BinOp.or IntKind.u64 ((q : Int) * 256) (IntKind.u64.wrap (x : Int)) = ((q * 256 + x : Nat) : Int) := by
  have e2 : (BitVec.ofInt 64 (((q * 256 : Nat) : Int))).toNat = q * 256 := by
    rw [BitVec.ofInt_natCast, BitVec.toNat_ofNat]; exact Nat.mod_eq_of_lt (by omega)
  have e3 : (BitVec.ofInt 64 (x : Int)).toNat = x := by
    rw [BitVec.ofInt_natCast, BitVec.toNat_ofNat]; exact Nat.mod_eq_of_lt (by omega)
  have e4 : IntKind.u64.wrap (x : Int) = (x : Int) := by
    simp only [IntKind.wrap, IntKind.signed, IntKind.bits]
    show (x : Int) % 18446744073709551616 = _
    omega
  rw [e4, show ((q : Int) * 256) = ((q * 256 : Nat) : Int) by omega]
  show IntKind.u64.wrap ((BitVec.ofInt 64 ((q * 256 : Nat) : Int) ||| BitVec.ofInt 64 (x : Int)).toNat : Int) = _
  rw [BitVec.toNat_or, e2, e3, lor_add q x hx]
  simp only [IntKind.wrap, IntKind.signed, IntKind.bits]
  show ((q * 256 + x : Nat) : Int) % 18446744073709551616 = _
  omega

set_option maxHeartbeats 400000 in
theorem ref_number (A : Option Addr) (c : Nat) (l : List UInt8) (w : World) (hB : Byts w A l) (hl : l.length ≤ 7) :
    Calls Try.prog 44 #[.slice A l.length c] w fun e w' => e = .returned (.int .u64 (numL l)) ∧ w = w' := by
  have HB := Lib.hid hB
  clear hB
  go_enter Try.func44, Try.ntmps44
  go_wp2
  go_loop [7, 3] (fun i x => ∃ k : Nat, k ≤ l.length ∧ i = .int .i64 k ∧ x = .int .u64 (numL (l.take k))) (fun i _ => l.length - (intOf i).toNat)
  case atStart => exact ⟨0, Nat.zero_le _, rfl, rfl⟩
  case round =>
    obtain ⟨k, hk, rfl, rfl⟩ := hrel
    by_cases hlt : k < l.length
    · obtain ⟨g, o, rfl, hg, hcell⟩ := HB.out (by omega)
      have hz := hcell k hlt
      clear hcell
      have hq := numL_lt (l.take k)
      have hs : numL (l.take (k + 1)) = numL (l.take k) * 256 + l[k].toNat := by rw [List.take_succ_eq_append_getElem hlt, numL_snoc]
      have Hs := Lib.hid hs
      clear hs
      have hq2 : numL (l.take k) < 281474976710656 := by
        have h1 : (l.take k).length ≤ 6 := by rw [List.length_take]; omega
        have h2 : 256 ^ (l.take k).length ≤ 256 ^ 6 := Nat.pow_le_pow_right (by omega) h1
        omega
      clear hq
      generalize numL (l.take k) = q at *
      go_wp2
      go_round
      case rel => exact ⟨k + 1, by omega, by go_num, by rw [or_u64 q _ l[k].toNat_lt (by omega), Hs.out]⟩
      case measure => simp [intOf]; omega
    · go_wp2
      go_ret
      rw [List.take_of_length_le (by omega)]
      exact ⟨rfl, rfl⟩
end Go.Proofs.Ytpfacfolocjidaa
