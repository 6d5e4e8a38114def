/- rostrumref02.Sum. -/
import Derived.Test.YtakgdmcekhafoaaDoorToR
import Derived.Test.YtakgdmcekhafoaaDoorToC
import Derived.Test.YtakgdmcekhafoaaDoorWo
import Derived.BigQuiet
import Derived.Test.YtakgdmcekhafoaaDoorLs
namespace Go.Proofs.YtakgdmcekhafoaaDoor
open Go.RowKit
set_option linter.unusedSimpArgs false

theorem lit_src {P : Program} {w : World} {t e : TypeId} (ht : P.underlying t = some (.slice e)) (l : List UInt8) : Src P 1 t (.slice (some ⟨w.heap.size, 0, none⟩) l.length l.length) l.length (bvs l) (w.alloc (.cells (bvs l).toArray e)) := by
  refine Src.ofSlice _ ht _ _ _ _ (by rw [bvs_len, Nat.mul_one]) (fun j u hj => ?_) (bvs_one l)
  rw [add_at, Nat.zero_add, World.cell?_alloc_new]
  simpa using hj

def slen : Value → Nat
  | .slice _ n _ => n
  | _ => 0
def zpad (l : List UInt8) (k : Nat) : List UInt8 := l ++ 128 :: List.replicate k 0
theorem zpad_len (l : List UInt8) (k : Nat) : (zpad l k).length = l.length + 1 + k := by unfold zpad; simp; omega
theorem zpad_next (l : List UInt8) (k : Nat) : zpad l k ++ [0] = zpad l (k + 1) := by
  unfold zpad
  rw [List.replicate_succ', List.append_assoc]
  rfl
theorem zero_mod (n k : Nat) (h : k ≤ zerosFor n) : ((n + 1 + k) % 64 = 56 ↔ k = zerosFor n) := by
  unfold zerosFor at *
  omega
theorem len8_next (n j : Nat) (hn : n ≤ 140737488351300) (hj : j < 8) : ∃ b : UInt8, (len8 n).take (j + 1) = (len8 n).take j ++ [b] ∧ (n : Int) * 8 / 2 ^ (56 - 8 * j) % 256 = (b.toNat : Int) := by
  have hl : j < (len8 n).length := by
    unfold len8
    rw [List.length_map, List.length_range]
    exact hj
  have e : (len8 n)[j]? = some (UInt8.ofNat (n * 8 / 2 ^ (56 - 8 * j))) := by
    unfold len8
    rw [List.getElem?_map, List.getElem?_range hj, Option.map_some, Nat.mod_eq_of_lt (by omega)]
  rw [List.getElem?_eq_getElem hl] at e
  injection e with e
  refine ⟨(len8 n)[j], List.take_succ_eq_append_getElem hl, ?_⟩
  rw [e, UInt8.toNat_ofNat']
  generalize 56 - 8 * j = p
  have h2 : ((n * 8 / 2 ^ p % 2 ^ 8 : Nat) : Int) = (n : Int) * 8 / 2 ^ p % 256 := by
    rw [Int.natCast_emod, Int.natCast_ediv, Int.natCast_mul, Int.natCast_pow]
    rfl
  exact h2.symm
/-- what is owned behind the pads' k-th byte -/
def PadSt (I : Img) (M : List Res) (r h : Nat) (A : Option Addr) (n c : Nat) (xs : List UInt8) (w : World) : Prop :=
  n = xs.length ∧ St I (row 5 1 (.slice A n c) n (bvs xs) :: bk h 97 (st5 initS) :: bk r 61 zero20 :: M) w
abbrev zero5 : Array Value := #[.int .u32 0, .int .u32 0, .int .u32 0, .int .u32 0, .int .u32 0]
theorem wi_not (x : BitVec 32) : bits .xor .u32 IntKind.u32.max (wi x) = wi (~~~ x) := by
  have h := wi_xor (BitVec.allOnes 32) x
  rw [BitVec.allOnes_xor] at h
  exact h
theorem lt3 {t : Nat} (h : t < 20) : (t : Int) < 60 ∧ (t : Int) < 40 ∧ (t : Int) < 20 := by omega
theorem lt3b {t : Nat} (h0 : ¬ t < 20) (h1 : t < 40) : (t : Int) < 60 ∧ (t : Int) < 40 ∧ (20 : Int) ≤ t := by omega
theorem lt3c {t : Nat} (h1 : ¬ t < 40) (h2 : t < 60) : (t : Int) < 60 ∧ (40 : Int) ≤ t := by omega
theorem lt3d {t : Nat} (h2 : ¬ t < 60) : (60 : Int) ≤ t := by omega
theorem fk0 {t : Nat} (h0 : t < 20) (b c d : BitVec 32) : fP t b c d = (b &&& c) ||| (~~~ b &&& d) ∧ kT t = 1518500249#32 :=
  ⟨by rw [← fR_eq]; unfold fR; rw [if_neg (by omega), if_neg (by omega), if_neg (by omega)], by unfold kT; rw [if_pos h0]⟩
theorem fk1 {t : Nat} (h0 : ¬ t < 20) (h1 : t < 40) (b c d : BitVec 32) : fP t b c d = (b ^^^ c) ^^^ d ∧ kT t = 1859775393#32 :=
  ⟨by rw [← fR_eq]; unfold fR; rw [if_neg (by omega), if_neg (by omega), if_pos (by omega)], by unfold kT; rw [if_neg h0, if_pos h1]⟩
theorem fk2 {t : Nat} (h1 : ¬ t < 40) (h2 : t < 60) (b c d : BitVec 32) : fP t b c d = ((b &&& c) ||| (b &&& d)) ||| (c &&& d) ∧ kT t = 2400959708#32 :=
  ⟨by rw [← fR_eq]; unfold fR; rw [if_neg (by omega), if_pos (by omega)], by unfold kT; rw [if_neg (by omega), if_neg h1, if_pos h2]⟩
theorem fk3 {t : Nat} (h2 : ¬ t < 60) (b c d : BitVec 32) : fP t b c d = (b ^^^ c) ^^^ d ∧ kT t = 3395469782#32 :=
  ⟨by rw [← fR_eq]; unfold fR; rw [if_pos (by omega)], by unfold kT; rw [if_neg (by omega), if_neg (by omega), if_neg h2]⟩
theorem info97 : (Tryd.prog.info? 97).map (·.size) = some 5 := by kernel_rfl
set_option maxRecDepth 8000 in
set_option maxHeartbeats 60000000 in
theorem sumR (I : Img) (M : List Res) (w : World) (A : Option Addr) (c : Nat) (l : List UInt8) (hst : St I M w) (hl : Byts I A l) (hn : l.length ≤ 140737488351300) :
    Calls Tryd.prog 47 #[.slice A l.length c] w (Ret I (fun v _ M' => v = .agg (bvs (outS (shaS l))).toArray ∧ M' = M)) := by
  obtain ⟨i0, hi, hz0, hz1, hz2⟩ : ∃ i, Tryd.prog.info? 5 = some i ∧ i.zero = some (.int .u8 0) ∧ i.size = 1 ∧ i.bytes = 1 := by
    obtain ⟨i, h1, h2⟩ := Option.map_eq_some_iff.1 (show (Tryd.prog.info? 5).map (fun i => (i.zero, i.size, i.bytes)) = some (some (.int .u8 0), 1, 1) by kernel_rfl)
    simp only [Prod.mk.injEq] at h2
    exact ⟨i, h1, h2.1, h2.2.1, h2.2.2⟩
  have hs1 := (hst.alloc 61 zero20).alloc 97 initC
  rw [World.size_alloc] at hs1
  obtain ⟨r, hr⟩ : ∃ r, r = w.heap.size := ⟨_, rfl⟩
  rw [← hr] at hs1
  have HB := Lib.hid hl
  clear hst hl
  go_enter Tryd.func47, Tryd.ntmps47
  go_upto_region 2 with fail
  rw [← hr]
  clear hr
  generalize World.alloc _ _ = W at hs1 ⊢
  rw [init_lit] at hs1
  have HS := Lib.hid hs1
  clear hs1
  have hs1 := (HS.out.alloc 5 #[]).drop
  have Hs := Lib.hid (HB.out.src hs1 Tryd.underlying22 c)
  have Ho := Lib.hid (HS.out.lit0 (e := 5))
  clear hs1
  go_wp2_with (at_builtin; refine wpList_append_src _ rfl _ _ 22 22 rfl W.heap.size 5 i0 (.int .u8 0) 1 1 Tryd.underlying22 hi hz0 hz1 hz2 rfl _ _ _ rfl Ho.out _ _ _ rfl Hs.out (by unfold maxLen; omega) (by omega) (by simp) ?_)
  intro v3 w3 hown' hgrow _
  have hB := ((Below.refl W.heap.size W).alloc (Nat.le_refl _) (.cells #[] 5)).grown hgrow (by simp) (fun k hk => by simp [Value.ownBlock] at hk; omega)
  have hown2 : w3.ownsRow W.heap.size 5 1 v3 l.length (bvs l) := by simpa using hown'
  have Hst3 := Lib.hid (St.fresh HS.out (HS.out.below hB) hown2)
  have Hown := Lib.hid (own_mono (base' := 0) hown2 (Nat.zero_le _))
  clear hown' hown2 hgrow hB Hs Ho
  obtain ⟨A3, c3, rfl⟩ := own_form Hown.out
  have Hl := Lib.hid (lit_src (P := Tryd.prog) (w := w3) (t := 22) (e := 5) Tryd.underlying22 [128])
  have Hown4 := Lib.hid (Hown.out.alloc (.cells #[.int .u8 128] 5))
  go_wp2_with (at_builtin; refine wpList_append_src _ rfl _ _ 22 22 rfl 0 5 i0 (.int .u8 0) 1 1 Tryd.underlying22 hi hz0 hz1 hz2 rfl _ _ _ rfl Hown4.out _ _ _ rfl Hl.out (by unfold maxLen; simp only [List.length_cons, List.length_nil]; omega) (by simp only [List.length_cons, List.length_nil]; omega) (by simp) ?_)
  intro v4 w4 hown' hgrow hat
  have hst4 := St.grown (Hst3.out.grow (.cells #[.int .u8 128] 5)) hgrow hown' (by simpa using hat)
  clear hown' hgrow hat Hst3 Hown Hl Hown4
  obtain ⟨A4, c4, rfl⟩ := own_form hst4.head
  rw [show (bvs l ++ bvs [128]) = bvs (l ++ [128]) from (bvs_append _ _).symm] at hst4
  have HS : Hid (St I (row 5 1 (.slice A4 (l.length + 1) c4) (l.length + 1) (bvs (zpad l 0)) :: bk (r + 1) 97 (st5 initS) :: bk r 61 zero20 :: M) w4) := Lib.hid hst4
  clear hst4
  go_upto_block 0 with fail
  go_cut [4] (fun v wx => ∃ (n : Nat) (A : Option Addr) (c : Nat), v = .slice A n c ∧ Hid (n = l.length + 1 + zerosFor l.length ∧ St I (row 5 1 (.slice A n c) n (bvs (zpad l (zerosFor l.length))) :: bk (r + 1) 97 (st5 initS) :: bk r 61 zero20 :: M) wx))
  case first => as_aux_lemma =>
    go_wp2_with fail
    go_loopw [4] (fun v wr => ∃ (k n : Nat) (A : Option Addr) (c : Nat), v = .slice A n c ∧ Hid (n = l.length + 1 + k ∧ k ≤ zerosFor l.length ∧ St I (row 5 1 (.slice A n c) n (bvs (zpad l k)) :: bk (r + 1) 97 (st5 initS) :: bk r 61 zero20 :: M) wr)) (fun v _ => l.length + 1 + zerosFor l.length - slen v)
    case atStart => exact ⟨0, _, A4, c4, rfl, Lib.hid ⟨rfl, Nat.zero_le _, HS.out⟩⟩
    case round =>
      obtain ⟨k, n, A5, c5, rfl, HK⟩ := hrel
      clear HS
      have hz63 : zerosFor l.length ≤ 63 := by unfold zerosFor; omega
      have hn2 : (n : Int) ≤ 140737488351364 := by have := HK.out.1; have := HK.out.2.1; omega
      by_cases hk : k = zerosFor l.length
      · have hm : (n : Int) % 64 = 56 := by
          have := (zero_mod l.length k HK.out.2.1).2 hk
          have := HK.out.1
          omega
        have hm2 : ((n : Int) % 64 != 56) = false := by rw [hm]; rfl
        have hkz := hk
        subst hkz
        have HK2 := Lib.hid (And.intro HK.out.1 HK.out.2.2)
        clear hm HK hz63
        go_wp2
        go_meet
        exact ⟨n, A5, c5, rfl, HK2⟩
      · have hm2 : ((n : Int) % 64 != 56) = true := by
          have h1 := HK.out.1
          have h2 := mt (zero_mod l.length k HK.out.2.1).1 hk
          rw [bne_iff_ne]
          omega
        have Hl := Lib.hid (lit_src (P := Tryd.prog) (w := wr) (t := 22) (e := 5) Tryd.underlying22 [0])
        have Hown4 := Lib.hid ((show wr.ownsRow 0 5 1 (.slice A5 n c5) n (bvs (zpad l k)) from HK.out.2.2.head).alloc (.cells #[.int .u8 0] 5))
        go_wp2_with (at_builtin; refine wpList_append_src _ rfl _ _ 22 22 rfl 0 5 i0 (.int .u8 0) 1 1 Tryd.underlying22 hi hz0 hz1 hz2 rfl _ _ _ rfl Hown4.out _ _ _ rfl Hl.out (by unfold maxLen; simp only [List.length_cons, List.length_nil]; omega) (by simp only [List.length_cons, List.length_nil]; omega) (by simp) ?_)
        intro v6 w6 hown' hgrow hat
        have hst6 := St.grown (HK.out.2.2.grow (.cells #[.int .u8 0] 5)) hgrow hown' (by simpa using hat)
        have HKK := Lib.hid (And.intro HK.out.1 HK.out.2.1)
        clear hown' hgrow hat Hl Hown4 HK
        obtain ⟨A6, c6, rfl⟩ := own_form hst6.head
        rw [show (bvs (zpad l k) ++ bvs [0]) = bvs (zpad l (k + 1)) from by rw [← zpad_next]; exact (bvs_append _ _).symm] at hst6
        have HS6 := Lib.hid hst6
        clear hst6
        go_wp2
        go_round
        case rel => exact ⟨k + 1, n + 1, A6, c6, rfl, Lib.hid ⟨by have := HKK.out.1; omega, by have := HKK.out.2; omega, HS6.out⟩⟩
        case measure => have := HKK.out; simp only [slen]; omega
  case rest =>
  obtain ⟨n, A5, c5, rfl, HK⟩ := hcut
  clear HS
  have HZ : Hid (St I (row 5 1 (.slice A5 n c5) n (bvs (zpad l (zerosFor l.length) ++ (len8 l.length).take 0)) :: bk (r + 1) 97 (st5 initS) :: bk r 61 zero20 :: M) _) := Lib.hid (by
    rw [List.take_zero, List.append_nil]
    exact HK.out.2)
  have HN := Lib.hid HK.out.1
  clear HK
  go_upto_block 2 with fail
  go_cut [4] (fun v wx => ∃ (A : Option Addr) (c : Nat) (J : Img), v = .slice A (padS l).length c ∧ Hid (I.le J ∧ Byts J A (padS l) ∧ St J (bk (r + 1) 97 (st5 initS) :: bk r 61 zero20 :: M) wx))
  case first => as_aux_lemma =>
    go_wp2_with fail
    go_loopw [38, 4] (fun kv v wr => ∃ (j m : Nat) (A : Option Addr) (c : Nat), j ≤ 8 ∧ kv = .int .i64 j ∧ v = .slice A m c ∧ Hid (m = l.length + 1 + zerosFor l.length + j ∧ St I (row 5 1 (.slice A m c) m (bvs (zpad l (zerosFor l.length) ++ (len8 l.length).take j)) :: bk (r + 1) 97 (st5 initS) :: bk r 61 zero20 :: M) wr)) (fun kv _ _ => 8 - (intOf kv).toNat)
    case atStart => exact ⟨0, n, A5, c5, by omega, rfl, rfl, Lib.hid ⟨HN.out, HZ.out⟩⟩
    case round =>
      obtain ⟨j, m, A6, c6, hj, rfl, rfl, HJ⟩ := hrel
      clear HZ
      have hz64 : zerosFor l.length ≤ 63 := by unfold zerosFor; omega
      have hm2 : (m : Int) ≤ 140737488351400 := by have := HJ.out.1; omega
      by_cases h8 : j < 8
      · have h8' : (j : Int) < 8 := by omega
        obtain ⟨b, hb1, hb2⟩ := len8_next l.length j hn h8
        have Hl := Lib.hid (show Src Tryd.prog 1 22 (.slice (some ⟨wr.heap.size, 0, none⟩) 1 1) 1 (bvs [b]) (wr.alloc (.cells #[.int .u8 ((l.length : Int) * 8 / 2 ^ (56 - 8 * j) % 256)] 5)) from by
          rw [hb2]
          exact lit_src Tryd.underlying22 [b])
        have Hown4 := Lib.hid ((show wr.ownsRow 0 5 1 (.slice A6 m c6) m _ from HJ.out.2.head).alloc (.cells #[.int .u8 ((l.length : Int) * 8 / 2 ^ (56 - 8 * j) % 256)] 5))
        have HB1 := Lib.hid hb1
        clear hb1 hb2 h8
        go_wp2_with (at_builtin; refine wpList_append_src _ rfl _ _ 22 22 rfl 0 5 i0 (.int .u8 0) 1 1 Tryd.underlying22 hi hz0 hz1 hz2 rfl _ _ _ rfl Hown4.out _ _ _ rfl Hl.out (by unfold maxLen; omega) (by omega) (by simp) ?_)
        intro v7 w7 hown' hgrow hat
        have hst7 := St.grown (HJ.out.2.grow (.cells #[.int .u8 ((l.length : Int) * 8 / 2 ^ (56 - 8 * j) % 256)] 5)) hgrow hown' (by simpa using hat)
        have HJ1 := Lib.hid HJ.out.1
        clear hown' hgrow hat Hl Hown4 HJ
        obtain ⟨A7, c7, rfl⟩ := own_form hst7.head
        rw [← bvs_append, List.append_assoc, ← HB1.out] at hst7
        have HS7 := Lib.hid hst7
        clear hst7
        go_wp2
        go_round
        case rel => exact ⟨j + 1, m + 1, A7, c7, by omega, by go_num, rfl, Lib.hid ⟨by have := HJ1.out; omega, HS7.out⟩⟩
        case measure => simp [intOf]; omega
      · obtain rfl : j = 8 := by omega
        have hpl : zpad l (zerosFor l.length) ++ (len8 l.length).take 8 = padS l := by
          rw [List.take_of_length_le (by unfold len8; rw [List.length_map, List.length_range]; exact Nat.le_refl _)]
          unfold zpad padS
          rw [List.append_assoc]
          rfl
        have hJ := HJ.out
        rw [hpl] at hJ
        have hml : m = (padS l).length := by
          rw [← hpl, List.length_append, zpad_len, List.take_of_length_le (by unfold len8; rw [List.length_map, List.length_range]; exact Nat.le_refl _)]
          unfold len8
          rw [List.length_map, List.length_range]
          exact hJ.1
        have HF := Lib.hid hJ.2.freezeRow
        have HM := Lib.hid hml
        clear hJ hml hpl HJ
        go_wp2
        go_meet
        obtain ⟨J, h1, h2, h3⟩ := HF.out
        exact ⟨A6, c6, J, by rw [HM.out], Lib.hid ⟨h1, h3, h2⟩⟩
  case rest =>
  obtain ⟨A6, c6, J, rfl, HJ⟩ := hcut
  clear HZ HN
  obtain ⟨Z, hZ⟩ : ∃ Z, Z = padS l := ⟨_, rfl⟩
  have hZ64 : Z.length % 64 = 0 := by rw [hZ]; exact padS_len l
  have hZn : Z.length ≤ 140737488351428 := by
    rw [hZ]
    unfold padS
    rw [List.length_append, List.length_cons, List.length_append, List.length_replicate, len8_len]
    have : zerosFor l.length ≤ 63 := by unfold zerosFor; omega
    omega
  have hZ0 : 0 < Z.length := by
    rw [hZ]
    unfold padS
    rw [List.length_append, List.length_cons]
    omega
  have HSH := Lib.hid (show shaS l = blocksN Z (Z.length / 64) from by rw [hZ]; rfl)
  rw [← hZ] at HJ ⊢
  have HL := Lib.hid HJ.out.1
  have HS := Lib.hid HJ.out.2.2
  have hby := HJ.out.2.1
  obtain ⟨g, o, rfl, hcz⟩ := hby (by rw [bvs_len]; exact hZ0)
  have HCZ := Lib.hid (show ∀ (N : List Res) (w' : World), St J N w' → ∀ j, j < Z.length → w'.cell? ⟨g, o + j, none⟩ = some (.int .u8 (Z.getD j 0).toNat) from fun N w' h j hj => by
    have h1 := h.cell (hcz j (by rw [bvs_len]; exact hj))
    rw [h1]
    simp [bvs, bv, hj])
  clear hcz hby HJ hZ hZ0
  go_upto_block 4 with fail
  go_cut [] (fun wx => Hid (St J (bk (r + 1) 97 (st5 (shaS l)) :: bk r 61 zero20 :: M) wx))
  case first =>
    go_wp2_with fail
    go_loopw [7] (fun av wr => ∃ i p : Nat, p = 64 * i ∧ p ≤ Z.length ∧ av = .int .i64 p ∧ Hid (St J (bk (r + 1) 97 (st5 (blocksN Z i)) :: bk r 61 zero20 :: M) wr)) (fun av _ => Z.length - (intOf av).toNat)
    case atStart => exact ⟨0, 0, by omega, by omega, rfl, HS⟩
    case round =>
      obtain ⟨ii, p, hp, hpz, rfl, HSr⟩ := hrel
      clear HS
      by_cases hlt : p < Z.length
      rotate_left
      · have hi : ii = Z.length / 64 := by omega
        have HS2 : Hid (St J (bk (r + 1) 97 (st5 (shaS l)) :: bk r 61 zero20 :: M) wr) := Lib.hid (by rw [HSH.out, ← hi]; exact HSr.out)
        have hpe : p = Z.length := by omega
        clear hp hi hlt HSr hZ64 hpz
        subst hpe
        go_wp2
        go_meet
        exact HS2
      have hlt' : (p : Int) < Z.length := by omega
      have hp64 : p + 64 ≤ Z.length := by omega
      obtain ⟨s, hs0⟩ : ∃ s, s = blocksN Z ii := ⟨_, rfl⟩
      have hs := HSr.out.alloc 98 (wcells [])
      rw [← hs0] at hs
      have HS0 := Lib.hid hs0
      clear hs0
      obtain ⟨q, hq⟩ : ∃ q, q = wr.heap.size := ⟨_, rfl⟩
      rw [← hq] at hs
      have HP := Lib.hid (And.intro hp hZ64)
      clear HSr hp hZ64
      obtain ⟨bs, hbs⟩ : ∃ bs, bs = (Z.drop p).take 64 := ⟨_, rfl⟩
      have gz : ∀ m, m < 64 → bs.getD m 0 = Z.getD (p + m) 0 := fun m hm => by
        rw [hbs]
        simp [List.getElem?_take, hm]
      have HBS := Lib.hid hbs
      have HGZ := Lib.hid gz
      clear hbs gz
      go_upto_block 6 with fail
      rw [← hq, zero98]
      clear hq
      generalize World.alloc _ _ = W0 at hs ⊢
      have HS := Lib.hid hs
      clear hs hlt
      go_cut [] (fun wx => Hid (St J (bk q 98 (wcells (firstW bs 16)) :: bk (r + 1) 97 (st5 s) :: bk r 61 zero20 :: M) wx))
      case first => as_aux_lemma =>
        go_wp2_with fail
        go_loopw [58] (fun iv wr => ∃ k : Nat, k ≤ 16 ∧ iv = .int .i64 k ∧ Hid (St J (bk q 98 (wcells (firstW bs k)) :: bk (r + 1) 97 (st5 s) :: bk r 61 zero20 :: M) wr)) (fun iv _ => 16 - (intOf iv).toNat)
        case atStart => exact ⟨0, by omega, rfl, HS⟩
        case round =>
          obtain ⟨k, hk, rfl, HSr⟩ := hrel
          clear HS
          by_cases hlt : k < 16
          rotate_left
          · obtain rfl : k = 16 := by omega
            clear hlt
            go_wp2
            go_meet
            exact HSr
          have hs := HSr.out.drew
          have HW := Lib.hid (show (wcells (firstW bs k)).setIfInBounds k (wv (be32 (bs.getD (4 * k) 0) (bs.getD (4 * k + 1) 0) (bs.getD (4 * k + 2) 0) (bs.getD (4 * k + 3) 0))) = wcells (firstW bs (k + 1)) from wcells_set (firstW_len bs k) (by omega) _)
          have HRD := Lib.hid (show ∀ (N : List Res) w', St J N w' → w'.cell? ⟨g, o + (p + 4 * k), none⟩ = some (.int .u8 (bs.getD (4 * k) 0).toNat) ∧ w'.cell? ⟨g, o + (p + 4 * k + 1), none⟩ = some (.int .u8 (bs.getD (4 * k + 1) 0).toNat) ∧ w'.cell? ⟨g, o + (p + 4 * k + 2), none⟩ = some (.int .u8 (bs.getD (4 * k + 2) 0).toNat) ∧ w'.cell? ⟨g, o + (p + 4 * k + 3), none⟩ = some (.int .u8 (bs.getD (4 * k + 3) 0).toNat) from fun N w' h => by
            rw [HGZ.out (4 * k) (by omega), HGZ.out (4 * k + 1) (by omega), HGZ.out (4 * k + 2) (by omega), HGZ.out (4 * k + 3) (by omega)]
            exact ⟨HCZ.out N w' h (p + 4 * k) (by omega), HCZ.out N w' h (p + (4 * k + 1)) (by omega), HCZ.out N w' h (p + (4 * k + 2)) (by omega), HCZ.out N w' h (p + (4 * k + 3)) (by omega)⟩)
          have hbe := be32_wi (bs.getD (4 * k) 0) (bs.getD (4 * k + 1) 0) (bs.getD (4 * k + 2) 0) (bs.getD (4 * k + 3) 0)
          generalize be32 (bs.getD (4 * k) 0) (bs.getD (4 * k + 1) 0) (bs.getD (4 * k + 2) 0) (bs.getD (4 * k + 3) 0) = X at HW hbe
          generalize bs.getD (4 * k) 0 = x0 at HRD hbe
          generalize bs.getD (4 * k + 1) 0 = x1 at HRD hbe
          generalize bs.getD (4 * k + 2) 0 = x2 at HRD hbe
          generalize bs.getD (4 * k + 3) 0 = x3 at HRD hbe
          obtain ⟨j, hj⟩ : ∃ j, j = p + 4 * k := ⟨_, rfl⟩
          rw [← hj] at HRD
          obtain ⟨d, hd⟩ : ∃ d, d = 4 * k := ⟨_, rfl⟩
          have hw00 : IntKind.i64.wrap (4 * (k : Int)) = (d : Int) := by rw [i64_wrap (by omega) (by omega)]; omega
          have hw0 : IntKind.i64.wrap ((p : Int) + (d : Int)) = (j : Int) := by rw [i64_wrap (by omega) (by omega)]; omega
          have hw1 : IntKind.i64.wrap ((j : Int) + 1) = (j : Int) + 1 := i64_wrap (by omega) (by omega)
          have hw2 : IntKind.i64.wrap ((j : Int) + 2) = (j : Int) + 2 := i64_wrap (by omega) (by omega)
          have hw3 : IntKind.i64.wrap ((j : Int) + 3) = (j : Int) + 3 := i64_wrap (by omega) (by omega)
          have hk80 : (k : Int) < 80 := by omega
          have hb0 : (j : Int) < Z.length := by omega
          have hb1 : (j : Int) + 1 < Z.length := by omega
          have hb2 : (j : Int) + 2 < Z.length := by omega
          have hb3 : (j : Int) + 3 < Z.length := by omega
          have hp1 : 0 ≤ (j : Int) + 1 := by omega
          have hp2 : 0 ≤ (j : Int) + 2 := by omega
          have hp3 : 0 ≤ (j : Int) + 3 := by omega
          have hn1 : ((j : Int) + 1).toNat = j + 1 := by omega
          have hn2 : ((j : Int) + 2).toNat = j + 2 := by omega
          have hn3 : ((j : Int) + 3).toNat = j + 3 := by omega
          clear HSr hj hd
          go_upto_region 18 with fail
          have HCK := Lib.hid (wcells_free (firstW_len bs k) (by omega))
          refine wp_region_held_drew (S := (fun w' => w'.cell? ⟨g, o + j, none⟩ = some (.int .u8 x0.toNat) ∧ w'.cell? ⟨g, o + (j + 1), none⟩ = some (.int .u8 x1.toNat) ∧ w'.cell? ⟨g, o + (j + 2), none⟩ = some (.int .u8 x2.toNat) ∧ w'.cell? ⟨g, o + (j + 3), none⟩ = some (.int .u8 x3.toNat))) (by kernel_rfl) (by (try dsimp only); exact HRD.out _ _ hs) (fun hHeld => ?_)
          generalize World.drew _ = W at hs hHeld ⊢
          refine wpAnyH_take (i := 0) (oi := _) (v := ?_) rfl (by kernel_rfl) (by kernel_rfl) (by kernel_rfl) (fun _ _ _ h => h) (Or.inl ⟨by rfl, ?_⟩) (by assumption) ?_
          rotate_left
          · (intro w hSw; (try dsimp only at hSw); go_simp; try with_reducible rfl)
          try simp only [Act.put, List.getElem_toArray, List.getElem_cons_zero, List.getElem_cons_succ, List.setIfInBounds_toArray, List.set_cons_zero, List.set_cons_succ]
          refine wpAnyH_take (i := 1) (oi := _) (v := ?_) rfl (by kernel_rfl) (by kernel_rfl) (by kernel_rfl) (fun _ _ _ h => h) (Or.inl ⟨by rfl, ?_⟩) (by assumption) ?_
          rotate_left
          · (intro w hSw; (try dsimp only at hSw); go_simp; try with_reducible rfl)
          try simp only [Act.put, List.getElem_toArray, List.getElem_cons_zero, List.getElem_cons_succ, List.setIfInBounds_toArray, List.set_cons_zero, List.set_cons_succ]
          refine wpAnyH_take (i := 2) (oi := _) (v := ?_) rfl (by kernel_rfl) (by kernel_rfl) (by kernel_rfl) (fun _ _ _ h => h) (Or.inl ⟨by rfl, ?_⟩) (by assumption) ?_
          rotate_left
          · (intro w hSw; (try dsimp only at hSw); go_simp; try with_reducible rfl)
          try simp only [Act.put, List.getElem_toArray, List.getElem_cons_zero, List.getElem_cons_succ, List.setIfInBounds_toArray, List.set_cons_zero, List.set_cons_succ]
          refine wpAnyH_take (i := 3) (oi := _) (v := ?_) rfl (by kernel_rfl) (by kernel_rfl) (by kernel_rfl) (fun _ _ _ h => h) (Or.inl ⟨by rfl, ?_⟩) (by assumption) ?_
          rotate_left
          · (intro w hSw; (try dsimp only at hSw); go_simp; try with_reducible rfl)
          try simp only [Act.put, List.getElem_toArray, List.getElem_cons_zero, List.getElem_cons_succ, List.setIfInBounds_toArray, List.set_cons_zero, List.set_cons_succ]
          refine wpAnyH_take (i := 4) (oi := _) (v := ?_) rfl (by kernel_rfl) (by kernel_rfl) (by kernel_rfl) (fun _ _ _ h => h) (Or.inl ⟨by rfl, ?_⟩) (by assumption) ?_
          rotate_left
          · (intro w hSw; (try dsimp only at hSw); go_simp; try with_reducible rfl)
          try simp only [Act.put, List.getElem_toArray, List.getElem_cons_zero, List.getElem_cons_succ, List.setIfInBounds_toArray, List.set_cons_zero, List.set_cons_succ]
          refine wpAnyH_take (i := 5) (oi := _) (v := ?_) rfl (by kernel_rfl) (by kernel_rfl) (by kernel_rfl) (fun _ _ _ h => h) (Or.inl ⟨by rfl, ?_⟩) (by assumption) ?_
          rotate_left
          · (intro w hSw; (try dsimp only at hSw); go_simp; try with_reducible rfl)
          try simp only [Act.put, List.getElem_toArray, List.getElem_cons_zero, List.getElem_cons_succ, List.setIfInBounds_toArray, List.set_cons_zero, List.set_cons_succ]
          refine wpAnyH_take (i := 6) (oi := _) (v := ?_) rfl (by kernel_rfl) (by kernel_rfl) (by kernel_rfl) (fun _ _ _ h => h) (Or.inl ⟨by rfl, ?_⟩) (by assumption) ?_
          rotate_left
          · (intro w hSw; (try dsimp only at hSw); go_simp; try with_reducible rfl)
          try simp only [Act.put, List.getElem_toArray, List.getElem_cons_zero, List.getElem_cons_succ, List.setIfInBounds_toArray, List.set_cons_zero, List.set_cons_succ]
          refine wpAnyH_take (i := 7) (oi := _) (v := ?_) rfl (by kernel_rfl) (by kernel_rfl) (by kernel_rfl) (fun _ _ _ h => h) (Or.inl ⟨by rfl, ?_⟩) (by assumption) ?_
          rotate_left
          · (intro w hSw; (try dsimp only at hSw); go_simp; try with_reducible rfl)
          try simp only [Act.put, List.getElem_toArray, List.getElem_cons_zero, List.getElem_cons_succ, List.setIfInBounds_toArray, List.set_cons_zero, List.set_cons_succ]
          refine wpAnyH_take (i := 8) (oi := _) (v := ?_) rfl (by kernel_rfl) (by kernel_rfl) (by kernel_rfl) (fun _ _ _ h => h) (Or.inl ⟨by rfl, ?_⟩) (by assumption) ?_
          rotate_left
          · (intro w hSw; (try dsimp only at hSw); go_simp; try with_reducible rfl)
          try simp only [Act.put, List.getElem_toArray, List.getElem_cons_zero, List.getElem_cons_succ, List.setIfInBounds_toArray, List.set_cons_zero, List.set_cons_succ]
          refine wpAnyH_take (i := 9) (oi := _) (v := ?_) rfl (by kernel_rfl) (by kernel_rfl) (by kernel_rfl) (fun _ _ _ h => h) (Or.inl ⟨by rfl, ?_⟩) (by assumption) ?_
          rotate_left
          · (intro w hSw; (try dsimp only at hSw); go_simp; try with_reducible rfl)
          try simp only [Act.put, List.getElem_toArray, List.getElem_cons_zero, List.getElem_cons_succ, List.setIfInBounds_toArray, List.set_cons_zero, List.set_cons_succ]
          refine wpAnyH_take (i := 10) (oi := _) (v := ?_) rfl (by kernel_rfl) (by kernel_rfl) (by kernel_rfl) (fun _ _ _ h => h) (Or.inl ⟨by rfl, ?_⟩) (by assumption) ?_
          rotate_left
          · (intro w hSw; (try dsimp only at hSw); go_simp; try with_reducible rfl)
          try simp only [Act.put, List.getElem_toArray, List.getElem_cons_zero, List.getElem_cons_succ, List.setIfInBounds_toArray, List.set_cons_zero, List.set_cons_succ]
          refine wpAnyH_take (i := 11) (oi := _) (v := ?_) rfl (by kernel_rfl) (by kernel_rfl) (by kernel_rfl) (fun _ _ _ h => h) (Or.inl ⟨by rfl, ?_⟩) (by assumption) ?_
          rotate_left
          · (intro w hSw; (try dsimp only at hSw); go_simp; try with_reducible rfl)
          try simp only [Act.put, List.getElem_toArray, List.getElem_cons_zero, List.getElem_cons_succ, List.setIfInBounds_toArray, List.set_cons_zero, List.set_cons_succ]
          refine wpAnyH_take (i := 12) (oi := _) (v := ?_) rfl (by kernel_rfl) (by kernel_rfl) (by kernel_rfl) (fun _ _ _ h => h) (Or.inl ⟨by rfl, ?_⟩) (by assumption) ?_
          rotate_left
          · (intro w hSw; (try dsimp only at hSw); go_simp; try with_reducible rfl)
          try simp only [Act.put, List.getElem_toArray, List.getElem_cons_zero, List.getElem_cons_succ, List.setIfInBounds_toArray, List.set_cons_zero, List.set_cons_succ]
          refine wpAnyH_take (i := 13) (oi := _) (v := ?_) rfl (by kernel_rfl) (by kernel_rfl) (by kernel_rfl) (fun _ _ _ h => h) (Or.inl ⟨by rfl, ?_⟩) (by assumption) ?_
          rotate_left
          · (intro w hSw; (try dsimp only at hSw); go_simp; try with_reducible rfl)
          try simp only [Act.put, List.getElem_toArray, List.getElem_cons_zero, List.getElem_cons_succ, List.setIfInBounds_toArray, List.set_cons_zero, List.set_cons_succ]
          refine wpAnyH_take (i := 14) (oi := _) (v := ?_) rfl (by kernel_rfl) (by kernel_rfl) (by kernel_rfl) (fun _ _ _ h => h) (Or.inl ⟨by rfl, ?_⟩) (by assumption) ?_
          rotate_left
          · (intro w hSw; (try dsimp only at hSw); go_simp; try with_reducible rfl)
          try simp only [Act.put, List.getElem_toArray, List.getElem_cons_zero, List.getElem_cons_succ, List.setIfInBounds_toArray, List.set_cons_zero, List.set_cons_succ]
          refine wpAnyH_take (i := 15) (oi := _) (v := ?_) rfl (by kernel_rfl) (by kernel_rfl) (by kernel_rfl) (fun _ _ _ h => h) (Or.inl ⟨by rfl, ?_⟩) (by assumption) ?_
          rotate_left
          · (intro w hSw; (try dsimp only at hSw); go_simp; try with_reducible rfl)
          try simp only [Act.put, List.getElem_toArray, List.getElem_cons_zero, List.getElem_cons_succ, List.setIfInBounds_toArray, List.set_cons_zero, List.set_cons_succ]
          refine wpAnyH_take (i := 16) (oi := _) (v := ?_) rfl (by kernel_rfl) (by kernel_rfl) (by kernel_rfl) (fun _ _ _ h => h) (Or.inl ⟨by rfl, ?_⟩) (by assumption) ?_
          rotate_left
          · (intro w hSw; (try dsimp only at hSw); go_simp; try with_reducible rfl)
          try simp only [Act.put, List.getElem_toArray, List.getElem_cons_zero, List.getElem_cons_succ, List.setIfInBounds_toArray, List.set_cons_zero, List.set_cons_succ]
          refine wpAnyH_take (i := 17) (oi := _) (v := ?_) rfl (by kernel_rfl) (by kernel_rfl) (by kernel_rfl) (fun _ _ _ h => h) (Or.inl ⟨by rfl, ?_⟩) (by assumption) ?_
          rotate_left
          · (intro w hSw; (try dsimp only at hSw); go_simp; try with_reducible rfl)
          try simp only [Act.put, List.getElem_toArray, List.getElem_cons_zero, List.getElem_cons_succ, List.setIfInBounds_toArray, List.set_cons_zero, List.set_cons_succ]
          refine wpAnyH_take (i := 18) (oi := _) (v := ?_) rfl (by kernel_rfl) (by kernel_rfl) (by kernel_rfl) (fun _ _ _ h => h) (Or.inl ⟨by rfl, ?_⟩) (by assumption) ?_
          rotate_left
          · (intro w hSw; (try dsimp only at hSw); go_simp; try with_reducible rfl)
          try simp only [Act.put, List.getElem_toArray, List.getElem_cons_zero, List.getElem_cons_succ, List.setIfInBounds_toArray, List.set_cons_zero, List.set_cons_succ]
          refine wpAnyH_take (i := 19) (oi := _) (v := ?_) rfl (by kernel_rfl) (by kernel_rfl) (by kernel_rfl) (fun _ _ _ h => h) (Or.inl ⟨by rfl, ?_⟩) (by assumption) ?_
          rotate_left
          · (intro w hSw; (try dsimp only at hSw); go_simp; try with_reducible rfl)
          try simp only [Act.put, List.getElem_toArray, List.getElem_cons_zero, List.getElem_cons_succ, List.setIfInBounds_toArray, List.set_cons_zero, List.set_cons_succ]
          refine wpAnyH_take (i := 20) (oi := _) (v := ?_) rfl (by kernel_rfl) (by kernel_rfl) (by kernel_rfl) (fun _ _ _ h => h) (Or.inl ⟨by rfl, ?_⟩) (by assumption) ?_
          rotate_left
          · (intro w hSw; (try dsimp only at hSw); go_simp; try with_reducible rfl)
          try simp only [Act.put, List.getElem_toArray, List.getElem_cons_zero, List.getElem_cons_succ, List.setIfInBounds_toArray, List.set_cons_zero, List.set_cons_succ]
          refine wpAnyH_take (i := 21) (oi := _) (v := ?_) rfl (by kernel_rfl) (by kernel_rfl) (by kernel_rfl) (fun _ _ _ h => h) (Or.inl ⟨by rfl, ?_⟩) (by assumption) ?_
          rotate_left
          · (intro w hSw; (try dsimp only at hSw); go_simp; try with_reducible rfl)
          try simp only [Act.put, List.getElem_toArray, List.getElem_cons_zero, List.getElem_cons_succ, List.setIfInBounds_toArray, List.set_cons_zero, List.set_cons_succ]
          refine wpAnyH_take (i := 22) (oi := _) (v := ?_) rfl (by kernel_rfl) (by kernel_rfl) (by kernel_rfl) (fun _ _ _ h => h) (Or.inl ⟨by rfl, ?_⟩) (by assumption) ?_
          rotate_left
          · (intro w hSw; (try dsimp only at hSw); go_simp; try with_reducible rfl)
          try simp only [Act.put, List.getElem_toArray, List.getElem_cons_zero, List.getElem_cons_succ, List.setIfInBounds_toArray, List.set_cons_zero, List.set_cons_succ]
          refine wpAnyH_take (i := 23) (oi := _) (v := ?_) rfl (by kernel_rfl) (by kernel_rfl) (by kernel_rfl) (fun _ _ _ h => h) (Or.inl ⟨by rfl, ?_⟩) (by assumption) ?_
          rotate_left
          · (intro w hSw; (try dsimp only at hSw); go_simp; try with_reducible rfl)
          try simp only [Act.put, List.getElem_toArray, List.getElem_cons_zero, List.getElem_cons_succ, List.setIfInBounds_toArray, List.set_cons_zero, List.set_cons_succ]
          refine wpAnyH_take (i := 24) (oi := _) (v := ?_) rfl (by kernel_rfl) (by kernel_rfl) (by kernel_rfl) (fun _ _ _ h => h) (Or.inl ⟨by rfl, ?_⟩) (by assumption) ?_
          rotate_left
          · (intro w hSw; (try dsimp only at hSw); go_simp; try with_reducible rfl)
          try simp only [Act.put, List.getElem_toArray, List.getElem_cons_zero, List.getElem_cons_succ, List.setIfInBounds_toArray, List.set_cons_zero, List.set_cons_succ]
          refine wpAnyH_take (i := 25) (oi := _) (v := ?_) rfl (by kernel_rfl) (by kernel_rfl) (by kernel_rfl) (fun _ _ _ h => h) (Or.inl ⟨by rfl, ?_⟩) (by assumption) ?_
          rotate_left
          · (intro w hSw; (try dsimp only at hSw); go_simp; try with_reducible rfl)
          try simp only [Act.put, List.getElem_toArray, List.getElem_cons_zero, List.getElem_cons_succ, List.setIfInBounds_toArray, List.set_cons_zero, List.set_cons_succ]
          refine wpAnyH_take (i := 26) (oi := _) (v := ?_) rfl (by kernel_rfl) (by kernel_rfl) (by kernel_rfl) (fun _ _ _ h => h) (Or.inl ⟨by rfl, ?_⟩) (by assumption) ?_
          rotate_left
          · (intro w hSw; (try dsimp only at hSw); go_simp; try with_reducible rfl)
          try simp only [Act.put, List.getElem_toArray, List.getElem_cons_zero, List.getElem_cons_succ, List.setIfInBounds_toArray, List.set_cons_zero, List.set_cons_succ]
          refine wpAnyH_take (i := 27) (oi := _) (v := ?_) rfl (by kernel_rfl) (by kernel_rfl) (by kernel_rfl) (fun _ _ _ h => h) (Or.inl ⟨by rfl, ?_⟩) (by assumption) ?_
          rotate_left
          · (intro w hSw; (try dsimp only at hSw); go_simp; try with_reducible rfl)
          try simp only [Act.put, List.getElem_toArray, List.getElem_cons_zero, List.getElem_cons_succ, List.setIfInBounds_toArray, List.set_cons_zero, List.set_cons_succ]
          refine wpAnyH_take (i := 28) (oi := _) (v := ?_) rfl (by kernel_rfl) (by kernel_rfl) (by kernel_rfl) (fun _ _ _ h => h) (Or.inl ⟨by rfl, ?_⟩) (by assumption) ?_
          rotate_left
          · (intro w hSw; (try dsimp only at hSw); go_simp; try with_reducible rfl)
          try simp only [Act.put, List.getElem_toArray, List.getElem_cons_zero, List.getElem_cons_succ, List.setIfInBounds_toArray, List.set_cons_zero, List.set_cons_succ]
          refine wpAnyH_take (i := 29) (oi := _) (v := ?_) rfl (by kernel_rfl) (by kernel_rfl) (by kernel_rfl) (fun _ _ _ h => h) (Or.inl ⟨by rfl, ?_⟩) (by assumption) ?_
          rotate_left
          · (intro w hSw; (try dsimp only at hSw); go_simp; try with_reducible rfl)
          try simp only [Act.put, List.getElem_toArray, List.getElem_cons_zero, List.getElem_cons_succ, List.setIfInBounds_toArray, List.set_cons_zero, List.set_cons_succ]
          refine wpAnyH_take (i := 30) (oi := _) (v := ?_) rfl (by kernel_rfl) (by kernel_rfl) (by kernel_rfl) (fun _ _ _ h => h) (Or.inl ⟨by rfl, ?_⟩) (by assumption) ?_
          rotate_left
          · (intro w hSw; (try dsimp only at hSw); go_simp; try with_reducible rfl)
          try simp only [Act.put, List.getElem_toArray, List.getElem_cons_zero, List.getElem_cons_succ, List.setIfInBounds_toArray, List.set_cons_zero, List.set_cons_succ]
          refine wpAnyH_take (i := 31) (oi := _) (v := ?_) rfl (by kernel_rfl) (by kernel_rfl) (by kernel_rfl) (fun _ _ _ h => h) (Or.inl ⟨by rfl, ?_⟩) (by assumption) ?_
          rotate_left
          · (intro w hSw; (try dsimp only at hSw); go_simp; try with_reducible rfl)
          try simp only [Act.put, List.getElem_toArray, List.getElem_cons_zero, List.getElem_cons_succ, List.setIfInBounds_toArray, List.set_cons_zero, List.set_cons_succ]
          refine wpAnyH_take (i := 32) (oi := _) (v := ?_) rfl (by kernel_rfl) (by kernel_rfl) (by kernel_rfl) (fun _ _ _ h => h) (Or.inl ⟨by rfl, ?_⟩) (by assumption) ?_
          rotate_left
          · (intro w hSw; (try dsimp only at hSw); go_simp; try with_reducible rfl)
          try simp only [Act.put, List.getElem_toArray, List.getElem_cons_zero, List.getElem_cons_succ, List.setIfInBounds_toArray, List.set_cons_zero, List.set_cons_succ]
          refine wpAnyH_take (i := 33) (oi := _) (v := ?_) rfl (by kernel_rfl) (by kernel_rfl) (by kernel_rfl) (fun _ _ _ h => h) (Or.inl ⟨by rfl, ?_⟩) (by assumption) ?_
          rotate_left
          · (intro w hSw; (try dsimp only at hSw); go_simp; try with_reducible rfl)
          try simp only [Act.put, List.getElem_toArray, List.getElem_cons_zero, List.getElem_cons_succ, List.setIfInBounds_toArray, List.set_cons_zero, List.set_cons_succ]
          refine wpAnyH_take (i := 34) (oi := _) (v := ?_) rfl (by kernel_rfl) (by kernel_rfl) (by kernel_rfl) (fun _ _ _ h => h) (Or.inl ⟨by rfl, ?_⟩) (by assumption) ?_
          rotate_left
          · (intro w hSw; (try dsimp only at hSw); go_simp; try with_reducible rfl)
          try simp only [Act.put, List.getElem_toArray, List.getElem_cons_zero, List.getElem_cons_succ, List.setIfInBounds_toArray, List.set_cons_zero, List.set_cons_succ]
          refine wpAnyH_take (i := 35) (oi := _) (v := ?_) rfl (by kernel_rfl) (by kernel_rfl) (by kernel_rfl) (fun _ _ _ h => h) (Or.inl ⟨by rfl, ?_⟩) (by assumption) ?_
          rotate_left
          · (intro w hSw; (try dsimp only at hSw); go_simp; try with_reducible rfl)
          try simp only [Act.put, List.getElem_toArray, List.getElem_cons_zero, List.getElem_cons_succ, List.setIfInBounds_toArray, List.set_cons_zero, List.set_cons_succ]
          refine wpAnyH_take (i := 36) (oi := _) (v := ?_) rfl (by kernel_rfl) (by kernel_rfl) (by kernel_rfl) (fun _ _ _ h => h) (Or.inl ⟨by rfl, ?_⟩) (by assumption) ?_
          rotate_left
          · (intro w hSw; (try dsimp only at hSw); go_simp; try with_reducible rfl)
          try simp only [Act.put, List.getElem_toArray, List.getElem_cons_zero, List.getElem_cons_succ, List.setIfInBounds_toArray, List.set_cons_zero, List.set_cons_succ]
          refine wpAnyH_take (i := 37) (oi := _) (v := ?_) rfl (by kernel_rfl) (by kernel_rfl) (by kernel_rfl) (fun _ _ _ h => h) (Or.inl ⟨by rfl, ?_⟩) (by assumption) ?_
          rotate_left
          · (intro w hSw; (try dsimp only at hSw); go_simp; try with_reducible rfl)
          try simp only [Act.put, List.getElem_toArray, List.getElem_cons_zero, List.getElem_cons_succ, List.setIfInBounds_toArray, List.set_cons_zero, List.set_cons_succ]
          refine wpAnyH_take (i := 38) (oi := _) (v := ?_) rfl (by kernel_rfl) (by kernel_rfl) (by kernel_rfl) (fun _ _ _ h => h) (Or.inl ⟨by rfl, ?_⟩) (by assumption) ?_
          rotate_left
          · (intro w hSw; (try dsimp only at hSw); go_simp; try with_reducible rfl)
          try simp only [Act.put, List.getElem_toArray, List.getElem_cons_zero, List.getElem_cons_succ, List.setIfInBounds_toArray, List.set_cons_zero, List.set_cons_succ]
          refine wpAnyH_take (i := 39) (oi := _) (v := ?_) rfl (by kernel_rfl) (by kernel_rfl) (by kernel_rfl) (fun _ _ _ h => h) (Or.inl ⟨by rfl, ?_⟩) (by assumption) ?_
          rotate_left
          · (intro w hSw; (try dsimp only at hSw); go_simp; try with_reducible rfl)
          try simp only [Act.put, List.getElem_toArray, List.getElem_cons_zero, List.getElem_cons_succ, List.setIfInBounds_toArray, List.set_cons_zero, List.set_cons_succ]
          refine wpAnyH_take (i := 40) (oi := _) (v := ?_) rfl (by kernel_rfl) (by kernel_rfl) (by kernel_rfl) (fun _ _ _ h => h) (Or.inl ⟨by rfl, ?_⟩) (by assumption) ?_
          rotate_left
          · (intro w hSw; (try dsimp only at hSw); go_simp; try with_reducible rfl)
          try simp only [Act.put, List.getElem_toArray, List.getElem_cons_zero, List.getElem_cons_succ, List.setIfInBounds_toArray, List.set_cons_zero, List.set_cons_succ]
          refine wpAnyH_take (i := 41) (oi := _) (v := ?_) rfl (by kernel_rfl) (by kernel_rfl) (by kernel_rfl) (fun _ _ _ h => h) (Or.inl ⟨by rfl, ?_⟩) (by assumption) ?_
          rotate_left
          · (intro w hSw; (try dsimp only at hSw); go_simp; try with_reducible rfl)
          try simp only [Act.put, List.getElem_toArray, List.getElem_cons_zero, List.getElem_cons_succ, List.setIfInBounds_toArray, List.set_cons_zero, List.set_cons_succ]
          refine wpAnyH_take (i := 42) (oi := _) (v := ?_) rfl (by kernel_rfl) (by kernel_rfl) (by kernel_rfl) (fun _ _ _ h => h) (Or.inl ⟨by rfl, ?_⟩) (by assumption) ?_
          rotate_left
          · (intro w hSw; (try dsimp only at hSw); go_simp; try with_reducible rfl)
          try simp only [Act.put, List.getElem_toArray, List.getElem_cons_zero, List.getElem_cons_succ, List.setIfInBounds_toArray, List.set_cons_zero, List.set_cons_succ]
          refine wpAnyH_ready (rs := [43]) (by kernel_rfl) (by simp) ?_
          refine (AllReadyH.cons (o := _) rfl (fun K hK => ?_) AllReadyH.nil)
          have hc1 : W.cell? ⟨q, k, none⟩ = some (.int .u32 0) := (Blk.cell hs.head k).trans HCK.out
          have hf1 := Blk.frozen (show Blk W q 98 _ from hs.head) k
          go_simp
          replace hs := hs.set k (wv X)
          rw [HW.out] at hs
          try clear hHeld
          refine hK.out _ _ (by (try dsimp only); exact HRD.out _ _ hs) (fun hHeld => ?_)
          clear hK K
          try simp only [Act.put, List.getElem_toArray, List.getElem_cons_zero, List.getElem_cons_succ, List.setIfInBounds_toArray, List.set_cons_zero, List.set_cons_succ]
          clear hc1 hf1
          refine wpAnyH_done (by kernel_rfl) ?_ _
          have HS9 := Lib.hid hs
          clear hs
          go_wp2
          go_roundw
          case rel => exact ⟨k + 1, by omega, by go_num, HS9⟩
          case measure => simp [intOf]; omega
      case rest =>
      have HS2 := hcut
      clear hcut HS
      go_upto_block 8 with fail
      go_cut [] (fun wx => Hid (St J (bk q 98 (wcells (wordsN bs 64)) :: bk (r + 1) 97 (st5 s) :: bk r 61 zero20 :: M) wx))
      case first => as_aux_lemma =>
        go_wp2_with fail
        go_loopw [10] (fun iv wr => ∃ i k : Nat, i ≤ 64 ∧ k = 16 + i ∧ iv = .int .i64 k ∧ Hid (St J (bk q 98 (wcells (wordsN bs i)) :: bk (r + 1) 97 (st5 s) :: bk r 61 zero20 :: M) wr)) (fun iv _ => 80 - (intOf iv).toNat)
        case atStart => exact ⟨0, 16, by omega, rfl, rfl, HS2⟩
        case round =>
          obtain ⟨i, k, hi, hki, rfl, HSr⟩ := hrel
          clear HS2
          by_cases hlt : k < 80
          rotate_left
          · obtain rfl : i = 64 := by omega
            have hge : (80 : Int) ≤ k := by omega
            clear hlt hki
            go_wp2
            go_meet
            exact HSr
          have hlen := wordsN_len bs i
          rw [← hki] at hlen
          have HW := Lib.hid (show (wcells (wordsN bs i)).setIfInBounds k (wv (nextW (wordsN bs i))) = wcells (wordsN bs (i + 1)) from wcells_set hlen (by omega) _)
          have HCK := Lib.hid (wcells_free hlen (by omega))
          obtain ⟨a3, ha3⟩ : ∃ a : Nat, a = k - 3 := ⟨_, rfl⟩
          obtain ⟨a8, ha8⟩ : ∃ a : Nat, a = k - 8 := ⟨_, rfl⟩
          obtain ⟨a14, ha14⟩ : ∃ a : Nat, a = k - 14 := ⟨_, rfl⟩
          obtain ⟨a16, ha16⟩ : ∃ a : Nat, a = k - 16 := ⟨_, rfl⟩
          have hg : ∀ a, a < k → (wcells (wordsN bs i))[a]? = some (wv ((wordsN bs i).getD a 0)) := fun a h => wcells_get (by omega)
          have hg2 : ∀ a, a < k → (wcells (wordsN bs (i + 1)))[a]? = some (wv ((wordsN bs i).getD a 0)) := fun a h => by
            rw [wcells_get (show a < (wordsN bs (i + 1)).length by rw [wordsN_len]; omega)]
            simp [wordsN, List.getElem?_append_left, hlen, h]
          have HRD := Lib.hid (show ∀ cs, (cs = wcells (wordsN bs i) ∨ cs = wcells (wordsN bs (i + 1))) → ∀ w', St J (bk q 98 cs :: bk (r + 1) 97 (st5 s) :: bk r 61 zero20 :: M) w' → w'.cell? ⟨q, a3, none⟩ = some (wv ((wordsN bs i).getD a3 0)) ∧ w'.cell? ⟨q, a8, none⟩ = some (wv ((wordsN bs i).getD a8 0)) ∧ w'.cell? ⟨q, a14, none⟩ = some (wv ((wordsN bs i).getD a14 0)) ∧ w'.cell? ⟨q, a16, none⟩ = some (wv ((wordsN bs i).getD a16 0)) from fun cs hcs w' h => by
            have hc : ∀ a, a < k → cs[a]? = some (wv ((wordsN bs i).getD a 0)) := fun a ha => by
              rcases hcs with rfl | rfl
              · exact hg a ha
              · exact hg2 a ha
            exact ⟨(Blk.cell h.head a3).trans (hc _ (by omega)), (Blk.cell h.head a8).trans (hc _ (by omega)), (Blk.cell h.head a14).trans (hc _ (by omega)), (Blk.cell h.head a16).trans (hc _ (by omega))⟩)
          have hnx : nextW (wordsN bs i) = rot 1 ((((wordsN bs i).getD a3 0 ^^^ (wordsN bs i).getD a8 0) ^^^ (wordsN bs i).getD a14 0) ^^^ (wordsN bs i).getD a16 0) := by
            unfold nextW
            rw [hlen, ha3, ha8, ha14, ha16]
          rw [hnx] at HW
          have hx1 := wi_xor ((wordsN bs i).getD a3 0) ((wordsN bs i).getD a8 0)
          have hx2 := wi_xor ((wordsN bs i).getD a3 0 ^^^ (wordsN bs i).getD a8 0) ((wordsN bs i).getD a14 0)
          have hx3 := wi_xor (((wordsN bs i).getD a3 0 ^^^ (wordsN bs i).getD a8 0) ^^^ (wordsN bs i).getD a14 0) ((wordsN bs i).getD a16 0)
          generalize (((wordsN bs i).getD a3 0 ^^^ (wordsN bs i).getD a8 0) ^^^ (wordsN bs i).getD a14 0) ^^^ (wordsN bs i).getD a16 0 = y3 at HW hx3
          generalize ((wordsN bs i).getD a3 0 ^^^ (wordsN bs i).getD a8 0) ^^^ (wordsN bs i).getD a14 0 = y2 at hx2 hx3
          generalize (wordsN bs i).getD a3 0 ^^^ (wordsN bs i).getD a8 0 = y1 at hx1 hx2
          generalize (wordsN bs i).getD a3 0 = x3 at HRD hx1
          generalize (wordsN bs i).getD a8 0 = x8 at HRD hx1
          generalize (wordsN bs i).getD a14 0 = x14 at HRD hx2
          generalize (wordsN bs i).getD a16 0 = x16 at HRD hx3
          have HC := Lib.hid (show ∀ w, Calls Tryd.prog 65 #[wv y3, .int .u64 1] w fun e w' => e = .returned (wv (rot 1 y3)) ∧ w' = w from fun w => rotR 1 (.inl rfl) y3 w)
          have hw3 : IntKind.i64.wrap ((k : Int) - 3) = (a3 : Int) := by rw [i64_wrap (by omega) (by omega)]; omega
          have hw8 : IntKind.i64.wrap ((k : Int) - 8) = (a8 : Int) := by rw [i64_wrap (by omega) (by omega)]; omega
          have hw14 : IntKind.i64.wrap ((k : Int) - 14) = (a14 : Int) := by rw [i64_wrap (by omega) (by omega)]; omega
          have hw16 : IntKind.i64.wrap ((k : Int) - 16) = (a16 : Int) := by rw [i64_wrap (by omega) (by omega)]; omega
          have hb0 : (k : Int) < 80 := by omega
          have hb3 : (a3 : Int) < 80 := by omega
          have hb8 : (a8 : Int) < 80 := by omega
          have hb14 : (a14 : Int) < 80 := by omega
          have hb16 : (a16 : Int) < 80 := by omega
          have hs := HSr.out.drew
          have HKI := Lib.hid hki
          clear HSr hlen hnx hg hg2 ha3 ha8 ha14 ha16 hki
          go_upto_region 23 with fail
          refine wp_region_held_drew (S := (fun w' => w'.cell? ⟨q, a3, none⟩ = some (wv x3) ∧ w'.cell? ⟨q, a8, none⟩ = some (wv x8) ∧ w'.cell? ⟨q, a14, none⟩ = some (wv x14) ∧ w'.cell? ⟨q, a16, none⟩ = some (wv x16))) (by kernel_rfl) (by (try dsimp only); first | exact HRD.out _ (.inl rfl) _ hs | exact HRD.out _ (.inr rfl) _ hs) (fun hHeld => ?_)
          generalize World.drew _ = W at hs hHeld ⊢
          refine wpAnyH_take (i := 0) (oi := _) (v := ?_) rfl (by kernel_rfl) (by kernel_rfl) (by kernel_rfl) (fun _ _ _ h => h) (Or.inl ⟨by rfl, ?_⟩) (by assumption) ?_
          rotate_left
          · (intro w hSw; (try dsimp only at hSw); go_simp; try with_reducible rfl)
          try simp only [Act.put, List.getElem_toArray, List.getElem_cons_zero, List.getElem_cons_succ, List.setIfInBounds_toArray, List.set_cons_zero, List.set_cons_succ]
          refine wpAnyH_take (i := 1) (oi := _) (v := ?_) rfl (by kernel_rfl) (by kernel_rfl) (by kernel_rfl) (fun _ _ _ h => h) (Or.inl ⟨by rfl, ?_⟩) (by assumption) ?_
          rotate_left
          · (intro w hSw; (try dsimp only at hSw); go_simp; try with_reducible rfl)
          try simp only [Act.put, List.getElem_toArray, List.getElem_cons_zero, List.getElem_cons_succ, List.setIfInBounds_toArray, List.set_cons_zero, List.set_cons_succ]
          refine wpAnyH_take (i := 2) (oi := _) (v := ?_) rfl (by kernel_rfl) (by kernel_rfl) (by kernel_rfl) (fun _ _ _ h => h) (Or.inl ⟨by rfl, ?_⟩) (by assumption) ?_
          rotate_left
          · (intro w hSw; (try dsimp only at hSw); go_simp; try with_reducible rfl)
          try simp only [Act.put, List.getElem_toArray, List.getElem_cons_zero, List.getElem_cons_succ, List.setIfInBounds_toArray, List.set_cons_zero, List.set_cons_succ]
          refine wpAnyH_take (i := 3) (oi := _) (v := ?_) rfl (by kernel_rfl) (by kernel_rfl) (by kernel_rfl) (fun _ _ _ h => h) (Or.inl ⟨by rfl, ?_⟩) (by assumption) ?_
          rotate_left
          · (intro w hSw; (try dsimp only at hSw); go_simp; try with_reducible rfl)
          try simp only [Act.put, List.getElem_toArray, List.getElem_cons_zero, List.getElem_cons_succ, List.setIfInBounds_toArray, List.set_cons_zero, List.set_cons_succ]
          refine wpAnyH_take (i := 4) (oi := _) (v := ?_) rfl (by kernel_rfl) (by kernel_rfl) (by kernel_rfl) (fun _ _ _ h => h) (Or.inl ⟨by rfl, ?_⟩) (by assumption) ?_
          rotate_left
          · (intro w hSw; (try dsimp only at hSw); go_simp; try with_reducible rfl)
          try simp only [Act.put, List.getElem_toArray, List.getElem_cons_zero, List.getElem_cons_succ, List.setIfInBounds_toArray, List.set_cons_zero, List.set_cons_succ]
          refine wpAnyH_take (i := 5) (oi := _) (v := ?_) rfl (by kernel_rfl) (by kernel_rfl) (by kernel_rfl) (fun _ _ _ h => h) (Or.inl ⟨by rfl, ?_⟩) (by assumption) ?_
          rotate_left
          · (intro w hSw; (try dsimp only at hSw); go_simp; try with_reducible rfl)
          try simp only [Act.put, List.getElem_toArray, List.getElem_cons_zero, List.getElem_cons_succ, List.setIfInBounds_toArray, List.set_cons_zero, List.set_cons_succ]
          refine wpAnyH_take (i := 6) (oi := _) (v := ?_) rfl (by kernel_rfl) (by kernel_rfl) (by kernel_rfl) (fun _ _ _ h => h) (Or.inl ⟨by rfl, ?_⟩) (by assumption) ?_
          rotate_left
          · (intro w hSw; (try dsimp only at hSw); go_simp; try with_reducible rfl)
          try simp only [Act.put, List.getElem_toArray, List.getElem_cons_zero, List.getElem_cons_succ, List.setIfInBounds_toArray, List.set_cons_zero, List.set_cons_succ]
          refine wpAnyH_take (i := 7) (oi := _) (v := ?_) rfl (by kernel_rfl) (by kernel_rfl) (by kernel_rfl) (fun _ _ _ h => h) (Or.inl ⟨by rfl, ?_⟩) (by assumption) ?_
          rotate_left
          · (intro w hSw; (try dsimp only at hSw); go_simp; try with_reducible rfl)
          try simp only [Act.put, List.getElem_toArray, List.getElem_cons_zero, List.getElem_cons_succ, List.setIfInBounds_toArray, List.set_cons_zero, List.set_cons_succ]
          refine wpAnyH_take (i := 8) (oi := _) (v := ?_) rfl (by kernel_rfl) (by kernel_rfl) (by kernel_rfl) (fun _ _ _ h => h) (Or.inl ⟨by rfl, ?_⟩) (by assumption) ?_
          rotate_left
          · (intro w hSw; (try dsimp only at hSw); go_simp; try with_reducible rfl)
          try simp only [Act.put, List.getElem_toArray, List.getElem_cons_zero, List.getElem_cons_succ, List.setIfInBounds_toArray, List.set_cons_zero, List.set_cons_succ]
          refine wpAnyH_take (i := 9) (oi := _) (v := ?_) rfl (by kernel_rfl) (by kernel_rfl) (by kernel_rfl) (fun _ _ _ h => h) (Or.inl ⟨by rfl, ?_⟩) (by assumption) ?_
          rotate_left
          · (intro w hSw; (try dsimp only at hSw); go_simp; try with_reducible rfl)
          try simp only [Act.put, List.getElem_toArray, List.getElem_cons_zero, List.getElem_cons_succ, List.setIfInBounds_toArray, List.set_cons_zero, List.set_cons_succ]
          refine wpAnyH_take (i := 10) (oi := _) (v := ?_) rfl (by kernel_rfl) (by kernel_rfl) (by kernel_rfl) (fun _ _ _ h => h) (Or.inl ⟨by rfl, ?_⟩) (by assumption) ?_
          rotate_left
          · (intro w hSw; (try dsimp only at hSw); go_simp; try with_reducible rfl)
          try simp only [Act.put, List.getElem_toArray, List.getElem_cons_zero, List.getElem_cons_succ, List.setIfInBounds_toArray, List.set_cons_zero, List.set_cons_succ]
          refine wpAnyH_take (i := 11) (oi := _) (v := ?_) rfl (by kernel_rfl) (by kernel_rfl) (by kernel_rfl) (fun _ _ _ h => h) (Or.inl ⟨by rfl, ?_⟩) (by assumption) ?_
          rotate_left
          · (intro w hSw; (try dsimp only at hSw); go_simp; try with_reducible rfl)
          try simp only [Act.put, List.getElem_toArray, List.getElem_cons_zero, List.getElem_cons_succ, List.setIfInBounds_toArray, List.set_cons_zero, List.set_cons_succ]
          refine wpAnyH_take (i := 12) (oi := _) (v := ?_) rfl (by kernel_rfl) (by kernel_rfl) (by kernel_rfl) (fun _ _ _ h => h) (Or.inl ⟨by rfl, ?_⟩) (by assumption) ?_
          rotate_left
          · (intro w hSw; (try dsimp only at hSw); go_simp; try with_reducible rfl)
          try simp only [Act.put, List.getElem_toArray, List.getElem_cons_zero, List.getElem_cons_succ, List.setIfInBounds_toArray, List.set_cons_zero, List.set_cons_succ]
          refine wpAnyH_take (i := 13) (oi := _) (v := ?_) rfl (by kernel_rfl) (by kernel_rfl) (by kernel_rfl) (fun _ _ _ h => h) (Or.inl ⟨by rfl, ?_⟩) (by assumption) ?_
          rotate_left
          · (intro w hSw; (try dsimp only at hSw); go_simp; try with_reducible rfl)
          try simp only [Act.put, List.getElem_toArray, List.getElem_cons_zero, List.getElem_cons_succ, List.setIfInBounds_toArray, List.set_cons_zero, List.set_cons_succ]
          refine wpAnyH_take (i := 14) (oi := _) (v := ?_) rfl (by kernel_rfl) (by kernel_rfl) (by kernel_rfl) (fun _ _ _ h => h) (Or.inl ⟨by rfl, ?_⟩) (by assumption) ?_
          rotate_left
          · (intro w hSw; (try dsimp only at hSw); go_simp; try with_reducible rfl)
          try simp only [Act.put, List.getElem_toArray, List.getElem_cons_zero, List.getElem_cons_succ, List.setIfInBounds_toArray, List.set_cons_zero, List.set_cons_succ]
          refine wpAnyH_take (i := 15) (oi := _) (v := ?_) rfl (by kernel_rfl) (by kernel_rfl) (by kernel_rfl) (fun _ _ _ h => h) (Or.inl ⟨by rfl, ?_⟩) (by assumption) ?_
          rotate_left
          · (intro w hSw; (try dsimp only at hSw); go_simp; try with_reducible rfl)
          try simp only [Act.put, List.getElem_toArray, List.getElem_cons_zero, List.getElem_cons_succ, List.setIfInBounds_toArray, List.set_cons_zero, List.set_cons_succ]
          refine wpAnyH_take (i := 16) (oi := _) (v := ?_) rfl (by kernel_rfl) (by kernel_rfl) (by kernel_rfl) (fun _ _ _ h => h) (Or.inl ⟨by rfl, ?_⟩) (by assumption) ?_
          rotate_left
          · (intro w hSw; (try dsimp only at hSw); go_simp; try with_reducible rfl)
          try simp only [Act.put, List.getElem_toArray, List.getElem_cons_zero, List.getElem_cons_succ, List.setIfInBounds_toArray, List.set_cons_zero, List.set_cons_succ]
          refine wpAnyH_take (i := 17) (oi := _) (v := ?_) rfl (by kernel_rfl) (by kernel_rfl) (by kernel_rfl) (fun _ _ _ h => h) (Or.inl ⟨by rfl, ?_⟩) (by assumption) ?_
          rotate_left
          · (intro w hSw; (try dsimp only at hSw); go_simp; try with_reducible rfl)
          try simp only [Act.put, List.getElem_toArray, List.getElem_cons_zero, List.getElem_cons_succ, List.setIfInBounds_toArray, List.set_cons_zero, List.set_cons_succ]
          refine wpAnyH_take (i := 18) (oi := _) (v := ?_) rfl (by kernel_rfl) (by kernel_rfl) (by kernel_rfl) (fun _ _ _ h => h) (Or.inl ⟨by rfl, ?_⟩) (by assumption) ?_
          rotate_left
          · (intro w hSw; (try dsimp only at hSw); go_simp; try with_reducible rfl)
          try simp only [Act.put, List.getElem_toArray, List.getElem_cons_zero, List.getElem_cons_succ, List.setIfInBounds_toArray, List.set_cons_zero, List.set_cons_succ]
          refine wpAnyH_take (i := 19) (oi := _) (v := ?_) rfl (by kernel_rfl) (by kernel_rfl) (by kernel_rfl) (fun _ _ _ h => h) (Or.inl ⟨by rfl, ?_⟩) (by assumption) ?_
          rotate_left
          · (intro w hSw; (try dsimp only at hSw); go_simp; try with_reducible rfl)
          try simp only [Act.put, List.getElem_toArray, List.getElem_cons_zero, List.getElem_cons_succ, List.setIfInBounds_toArray, List.set_cons_zero, List.set_cons_succ]
          refine wpAnyH_ready (rs := [20]) (by kernel_rfl) (by simp) ?_
          refine (AllReadyH.cons (o := _) rfl (fun K hK => ?_) AllReadyH.nil)
          go_simp
          refine (HC.out _).mono ?_
          rintro e w' ⟨rfl, rfl⟩
          try clear hHeld
          refine hK.out _ _ (by (try dsimp only); first | exact HRD.out _ (.inl rfl) _ hs | exact HRD.out _ (.inr rfl) _ hs) (fun hHeld => ?_)
          clear hK K
          try simp only [Act.put, List.getElem_toArray, List.getElem_cons_zero, List.getElem_cons_succ, List.setIfInBounds_toArray, List.set_cons_zero, List.set_cons_succ]
          refine wpAnyH_take (i := 21) (oi := _) (v := ?_) rfl (by kernel_rfl) (by kernel_rfl) (by kernel_rfl) (fun _ _ _ h => h) (Or.inl ⟨by rfl, ?_⟩) (by assumption) ?_
          rotate_left
          · (intro w hSw; (try dsimp only at hSw); go_simp; try with_reducible rfl)
          try simp only [Act.put, List.getElem_toArray, List.getElem_cons_zero, List.getElem_cons_succ, List.setIfInBounds_toArray, List.set_cons_zero, List.set_cons_succ]
          refine wpAnyH_ready (rs := [22]) (by kernel_rfl) (by simp) ?_
          refine (AllReadyH.cons (o := _) rfl (fun K hK => ?_) AllReadyH.nil)
          have hc1 : w'.cell? ⟨q, k, none⟩ = some (.int .u32 0) := (Blk.cell hs.head k).trans HCK.out
          have hf1 := Blk.frozen (show Blk w' q 98 _ from hs.head) k
          go_simp
          replace hs := hs.set k (wv (rot 1 y3))
          rw [HW.out] at hs
          try clear hHeld
          refine hK.out _ _ (by (try dsimp only); first | exact HRD.out _ (.inl rfl) _ hs | exact HRD.out _ (.inr rfl) _ hs) (fun hHeld => ?_)
          clear hK K
          try simp only [Act.put, List.getElem_toArray, List.getElem_cons_zero, List.getElem_cons_succ, List.setIfInBounds_toArray, List.set_cons_zero, List.set_cons_succ]
          clear hc1 hf1
          refine wpAnyH_done (by kernel_rfl) ?_ _
          have HS9 := Lib.hid hs
          clear hs
          go_wp2
          go_roundw
          case rel => exact ⟨i + 1, k + 1, by have := HKI.out; omega, by have := HKI.out; omega, by go_num, HS9⟩
          case measure => simp [intOf]; omega
      case rest =>
      have HS3 := hcut
      clear hcut HS2
      obtain ⟨O, hO⟩ : ∃ O, O = st5 s := ⟨_, rfl⟩
      have hs := HS3.out.alloc 97 zero5
      have hbx : (wc.alloc (.cells zero5 97)).heap[wc.heap.size]? = some (.cells zero5 97 (0, 0)) := hs.head
      have hb97 : wc.heap[r + 1]? = some (.cells O 97 (0, 0)) := by rw [hO]; exact HS3.out.at 1 rfl
      have hi97 : (Tryd.prog.info? 97).map (·.size) = some O.size := by rw [info97, hO]; rfl
      have ho1 : O.all (·.oneCell') = true := by rw [hO]; simp [st5, Value.oneCell']
      have hos : zero5.size = O.size := by rw [hO]; rfl
      have HS4 := Lib.hid (hs.setR O)
      have HO := Lib.hid hO
      clear hs hO HS3
      go_upto_block 10 with (first | refine wpList_load_row rfl 97 (.tmp 3) rfl (r + 1) rfl 97 O (0, 0) _ hb97 Tryd.underlying97 rfl hi97 ?_ | refine wpList_store_row rfl 97 (.tmp 11) (.tmp 131) rfl wc.heap.size O rfl rfl 97 _ hbx hi97 hos ho1 ?_)
      have hs4 := HS4.out
      generalize World.setRow _ _ _ = W5 at hs4 ⊢
      rw [HO.out] at hs4
      clear hb97 hi97 ho1 hos hbx HS4 HO
      obtain ⟨u, hu⟩ : ∃ u, u = wc.heap.size := ⟨_, rfl⟩
      rw [← hu] at hs4 ⊢
      clear hu
      have HS5 := Lib.hid hs4
      clear hs4
      go_cut [] (fun wx => Hid (St J (bk u 97 (st5 (roundsN (wordsN bs 64) s 80)) :: bk q 98 (wcells (wordsN bs 64)) :: bk (r + 1) 97 (st5 s) :: bk r 61 zero20 :: M) wx))
      case first =>
        go_wp2_with fail
        go_loopw [132] (fun iv wr => ∃ (t : Nat) (y : S5), t ≤ 80 ∧ iv = .int .i64 t ∧ Hid (y = roundsN (wordsN bs 64) s t ∧ St J (bk u 97 (st5 y) :: bk q 98 (wcells (wordsN bs 64)) :: bk (r + 1) 97 (st5 s) :: bk r 61 zero20 :: M) wr)) (fun iv _ => 80 - (intOf iv).toNat)
        case atStart => exact ⟨0, s, by omega, rfl, Lib.hid (And.intro (show s = roundsN (wordsN bs 64) s 0 from rfl) HS5.out)⟩
        case round =>
          obtain ⟨t, ⟨a, b, c', d, e⟩, ht, rfl, HY⟩ := hrel
          clear HS5
          by_cases hlt : t < 80
          rotate_left
          · obtain rfl : t = 80 := by omega
            have HE := Lib.hid (show St J (bk u 97 (st5 (roundsN (wordsN bs 64) s 80)) :: bk q 98 (wcells (wordsN bs 64)) :: bk (r + 1) 97 (st5 s) :: bk r 61 zero20 :: M) wr from by have := HY.out.2; rw [HY.out.1] at this; exact this)
            clear hlt HY
            go_wp2
            go_meet
            exact HE
          obtain ⟨x, hx⟩ : ∃ x, x = (wordsN bs 64).getD t 0 := ⟨_, rfl⟩
          have hxc : (wcells (wordsN bs 64))[t]? = some (wv x) := by rw [hx]; exact wcells_get (by rw [wordsN_len]; omega)
          have HN := Lib.hid (show roundsN (wordsN bs 64) s (t + 1) = ⟨rot 5 a + fP t b c' d + e + kT t + x, a, rot 30 b, c', d⟩ by
            show roundS t _ _ = _
            rw [← HY.out.1, ← hx]
            rfl)
          have htl : (t : Int) < 80 := by omega
          have HRD := Lib.hid (show ∀ (N : List Res) w', St J (bk u 97 (st5 ⟨a, b, c', d, e⟩) :: bk q 98 (wcells (wordsN bs 64)) :: N) w' → w'.cell? ⟨u, 0, none⟩ = some (wv a) ∧ w'.cell? ⟨u, 4, none⟩ = some (wv e) ∧ w'.cell? ⟨q, t, none⟩ = some (wv x) from fun N w' h => ⟨Blk.cell (show Blk w' u 97 (st5 ⟨a, b, c', d, e⟩) from h.head) 0, Blk.cell (show Blk w' u 97 (st5 ⟨a, b, c', d, e⟩) from h.head) 4, (Blk.cell (show Blk w' q 98 _ from h.at 1 rfl) t).trans hxc⟩)
          have HS6 := Lib.hid HY.out.2
          have y1 : wr.cell? ⟨u, 1, none⟩ = some (wv b) := Blk.cell (show Blk wr u 97 (st5 ⟨a, b, c', d, e⟩) from HS6.out.head) 1
          have y2 : wr.cell? ⟨u, 2, none⟩ = some (wv c') := Blk.cell (show Blk wr u 97 (st5 ⟨a, b, c', d, e⟩) from HS6.out.head) 2
          have y3 : wr.cell? ⟨u, 3, none⟩ = some (wv d) := Blk.cell (show Blk wr u 97 (st5 ⟨a, b, c', d, e⟩) from HS6.out.head) 3
          have HC5 := Lib.hid (show ∀ w, Calls Tryd.prog 65 #[wv a, .int .u64 5] w fun e w' => e = .returned (wv (rot 5 a)) ∧ w' = w from fun w => rotR 5 (.inr (.inl rfl)) a w)
          have HC30 := Lib.hid (show ∀ w, Calls Tryd.prog 65 #[wv b, .int .u64 30] w fun e w' => e = .returned (wv (rot 30 b)) ∧ w' = w from fun w => rotR 30 (.inr (.inr rfl)) b w)
          generalize rot 5 a = r5 at HC5 HN
          generalize rot 30 b = r30 at HC30 HN
          have hnb := wi_not b
          clear HY hx hxc
          go_upto_region 28 with fail
          go_quiet (fail)
          have hs7 := HS6.out.drewN nq
          generalize wr.drewN nq = w7 at hs7 ⊢
          have HS7 := Lib.hid hs7
          clear hs7 HS6 y1 y2 y3
          go_upto_block 12 with fail
          go_cut [16, 17] (fun fv kv wx => fv = wv (fP t b c' d) ∧ kv = wv (kT t) ∧ wx = w7)
          case first => as_aux_lemma =>
            clear HN HRD HS7 HC5 HC30
            by_cases h0 : t < 20
            · obtain ⟨h60, h40, h20⟩ := lt3 h0
              obtain ⟨hf, hk⟩ := fk0 h0 b c' d
              have hxx1 := wi_and b c'
              have hxx2 := wi_and (~~~ b) d
              have hxx3 := wi_or (b &&& c') (~~~ b &&& d)
              have HF := Lib.hid hf
              have HKK := Lib.hid hk
              generalize (b &&& c') ||| (~~~ b &&& d) = f at hxx3 HF
              generalize ~~~ b &&& d = z2 at hxx2 hxx3
              generalize b &&& c' = z1 at hxx1 hxx3
              generalize ~~~ b = nb at hnb hxx2
              clear h0 hf hk
              go_wp2
              go_meet
              exact ⟨by rw [HF.out], by rw [HKK.out]; rfl, rfl⟩
            by_cases h1 : t < 40
            · obtain ⟨h60, h40, h20⟩ := lt3b h0 h1
              obtain ⟨hf, hk⟩ := fk1 h0 h1 b c' d
              have hxx1 := wi_xor b c'
              have hxx2 := wi_xor (b ^^^ c') d
              have HF := Lib.hid hf
              have HKK := Lib.hid hk
              generalize (b ^^^ c') ^^^ d = f at hxx2 HF
              generalize b ^^^ c' = z1 at hxx1 hxx2
              clear h0 h1 hf hk hnb
              go_wp2
              go_meet
              exact ⟨by rw [HF.out], by rw [HKK.out]; rfl, rfl⟩
            by_cases h2 : t < 60
            · obtain ⟨h60, h40⟩ := lt3c h1 h2
              obtain ⟨hf, hk⟩ := fk2 h1 h2 b c' d
              have hxx1 := wi_and b c'
              have hxx2 := wi_and b d
              have hxx3 := wi_and c' d
              have hxx4 := wi_or (b &&& c') (b &&& d)
              have hxx5 := wi_or ((b &&& c') ||| (b &&& d)) (c' &&& d)
              have HF := Lib.hid hf
              have HKK := Lib.hid hk
              generalize ((b &&& c') ||| (b &&& d)) ||| (c' &&& d) = f at hxx5 HF
              generalize (b &&& c') ||| (b &&& d) = z4 at hxx4 hxx5
              generalize c' &&& d = z3 at hxx3 hxx5
              generalize b &&& d = z2 at hxx2 hxx4
              generalize b &&& c' = z1 at hxx1 hxx4
              clear h0 h1 h2 hf hk hnb
              go_wp2
              go_meet
              exact ⟨by rw [HF.out], by rw [HKK.out]; rfl, rfl⟩
            · have h60 := lt3d h2
              obtain ⟨hf, hk⟩ := fk3 h2 b c' d
              have hxx1 := wi_xor b c'
              have hxx2 := wi_xor (b ^^^ c') d
              have HF := Lib.hid hf
              have HKK := Lib.hid hk
              generalize (b ^^^ c') ^^^ d = f at hxx2 HF
              generalize b ^^^ c' = z1 at hxx1 hxx2
              clear h0 h1 h2 hf hk hnb
              go_wp2
              go_meet
              exact ⟨by rw [HF.out], by rw [HKK.out]; rfl, rfl⟩
          case rest =>
          obtain ⟨rfl, rfl, rfl⟩ := hcut
          generalize fP t b c' d = f at HN ⊢
          generalize kT t = kk at HN ⊢
          have hm1 := wi_add r5 f
          have hm2 := wi_add (r5 + f) e
          have hm3 := wi_add (r5 + f + e) kk
          have hm4 := wi_add (r5 + f + e + kk) x
          generalize r5 + f + e + kk + x = v4 at hm4 HN
          generalize r5 + f + e + kk = v3 at hm3 hm4
          generalize r5 + f + e = v2 at hm2 hm3
          generalize r5 + f = v1 at hm1 hm2
          have hn1 := (u32_mod (wi r5 + wi f)).trans hm1
          have hn2 := (u32_mod (wi v1 + wi e)).trans hm2
          have hn3 := (u32_mod (wi v2 + wi kk)).trans hm3
          have hn4 := (u32_mod (wi v3 + wi x)).trans hm4
          clear hm1 hm2 hm3 hm4 hnb
          go_upto_region 36 with fail
          have hs := HS7.out.drew
          refine wp_region_last (S := (fun w' => w'.cell? ⟨u, 0, none⟩ = some (wv a) ∧ w'.cell? ⟨u, 4, none⟩ = some (wv e) ∧ w'.cell? ⟨q, t, none⟩ = some (wv x))) (by kernel_rfl) (by (try dsimp only); exact HRD.out _ _ hs) (fun hHeld => ?_)
          generalize World.drew _ = W8 at hs hHeld ⊢
          refine wpAnyL_take (i := 0) 1 (oi := _) (v := ?_) rfl (by kernel_rfl) (by kernel_rfl) (by kernel_rfl) (by kernel_rfl) (fun _ _ _ h => h) (Or.inl ⟨by rfl, ?_⟩) (by assumption) ?_
          rotate_left
          · (intro w hSw; (try dsimp only at hSw); go_simp; try with_reducible rfl)
          try simp only [Act.put, List.getElem_toArray, List.getElem_cons_zero, List.getElem_cons_succ, List.setIfInBounds_toArray, List.set_cons_zero, List.set_cons_succ]
          refine wpAnyL_take (i := 1) 2 (oi := _) (v := ?_) rfl (by kernel_rfl) (by kernel_rfl) (by kernel_rfl) (by kernel_rfl) (fun _ _ _ h => h) (Or.inl ⟨by rfl, ?_⟩) (by assumption) ?_
          rotate_left
          · (intro w hSw; (try dsimp only at hSw); go_simp; try with_reducible rfl)
          try simp only [Act.put, List.getElem_toArray, List.getElem_cons_zero, List.getElem_cons_succ, List.setIfInBounds_toArray, List.set_cons_zero, List.set_cons_succ]
          refine wpAnyL_take (i := 3) 4 (oi := _) (v := ?_) rfl (by kernel_rfl) (by kernel_rfl) (by kernel_rfl) (by kernel_rfl) (fun _ _ _ h => h) (Or.inl ⟨by rfl, ?_⟩) (by assumption) ?_
          rotate_left
          · (intro w hSw; (try dsimp only at hSw); go_simp; try with_reducible rfl)
          try simp only [Act.put, List.getElem_toArray, List.getElem_cons_zero, List.getElem_cons_succ, List.setIfInBounds_toArray, List.set_cons_zero, List.set_cons_succ]
          refine wpAnyL_take (i := 5) 6 (oi := _) (v := ?_) rfl (by kernel_rfl) (by kernel_rfl) (by kernel_rfl) (by kernel_rfl) (fun _ _ _ h => h) (Or.inl ⟨by rfl, ?_⟩) (by assumption) ?_
          rotate_left
          · (intro w hSw; (try dsimp only at hSw); go_simp; try with_reducible rfl)
          try simp only [Act.put, List.getElem_toArray, List.getElem_cons_zero, List.getElem_cons_succ, List.setIfInBounds_toArray, List.set_cons_zero, List.set_cons_succ]
          refine wpAnyL_take (i := 6) 7 (oi := _) (v := ?_) rfl (by kernel_rfl) (by kernel_rfl) (by kernel_rfl) (by kernel_rfl) (fun _ _ _ h => h) (Or.inl ⟨by rfl, ?_⟩) (by assumption) ?_
          rotate_left
          · (intro w hSw; (try dsimp only at hSw); go_simp; try with_reducible rfl)
          try simp only [Act.put, List.getElem_toArray, List.getElem_cons_zero, List.getElem_cons_succ, List.setIfInBounds_toArray, List.set_cons_zero, List.set_cons_succ]
          refine wpAnyL_take (i := 8) 9 (oi := _) (v := ?_) rfl (by kernel_rfl) (by kernel_rfl) (by kernel_rfl) (by kernel_rfl) (fun _ _ _ h => h) (Or.inl ⟨by rfl, ?_⟩) (by assumption) ?_
          rotate_left
          · (intro w hSw; (try dsimp only at hSw); go_simp; try with_reducible rfl)
          try simp only [Act.put, List.getElem_toArray, List.getElem_cons_zero, List.getElem_cons_succ, List.setIfInBounds_toArray, List.set_cons_zero, List.set_cons_succ]
          refine wpAnyL_take (i := 10) 11 (oi := _) (v := ?_) rfl (by kernel_rfl) (by kernel_rfl) (by kernel_rfl) (by kernel_rfl) (fun _ _ _ h => h) (Or.inl ⟨by rfl, ?_⟩) (by assumption) ?_
          rotate_left
          · (intro w hSw; (try dsimp only at hSw); go_simp; try with_reducible rfl)
          try simp only [Act.put, List.getElem_toArray, List.getElem_cons_zero, List.getElem_cons_succ, List.setIfInBounds_toArray, List.set_cons_zero, List.set_cons_succ]
          refine wpAnyL_take (i := 11) 12 (oi := _) (v := ?_) rfl (by kernel_rfl) (by kernel_rfl) (by kernel_rfl) (by kernel_rfl) (fun _ _ _ h => h) (Or.inl ⟨by rfl, ?_⟩) (by assumption) ?_
          rotate_left
          · (intro w hSw; (try dsimp only at hSw); go_simp; try with_reducible rfl)
          try simp only [Act.put, List.getElem_toArray, List.getElem_cons_zero, List.getElem_cons_succ, List.setIfInBounds_toArray, List.set_cons_zero, List.set_cons_succ]
          refine wpAnyL_take (i := 12) 13 (oi := _) (v := ?_) rfl (by kernel_rfl) (by kernel_rfl) (by kernel_rfl) (by kernel_rfl) (fun _ _ _ h => h) (Or.inl ⟨by rfl, ?_⟩) (by assumption) ?_
          rotate_left
          · (intro w hSw; (try dsimp only at hSw); go_simp; try with_reducible rfl)
          try simp only [Act.put, List.getElem_toArray, List.getElem_cons_zero, List.getElem_cons_succ, List.setIfInBounds_toArray, List.set_cons_zero, List.set_cons_succ]
          refine wpAnyL_take (i := 14) 15 (oi := _) (v := ?_) rfl (by kernel_rfl) (by kernel_rfl) (by kernel_rfl) (by kernel_rfl) (fun _ _ _ h => h) (Or.inl ⟨by rfl, ?_⟩) (by assumption) ?_
          rotate_left
          · (intro w hSw; (try dsimp only at hSw); go_simp; try with_reducible rfl)
          try simp only [Act.put, List.getElem_toArray, List.getElem_cons_zero, List.getElem_cons_succ, List.setIfInBounds_toArray, List.set_cons_zero, List.set_cons_succ]
          refine wpAnyL_take (i := 15) 20 (oi := _) (v := ?_) rfl (by kernel_rfl) (by kernel_rfl) (by kernel_rfl) (by kernel_rfl) (fun _ _ _ h => h) (Or.inl ⟨by rfl, ?_⟩) (by assumption) ?_
          rotate_left
          · (intro w hSw; (try dsimp only at hSw); go_simp; try with_reducible rfl)
          try simp only [Act.put, List.getElem_toArray, List.getElem_cons_zero, List.getElem_cons_succ, List.setIfInBounds_toArray, List.set_cons_zero, List.set_cons_succ]
          refine wpAnyL_take (i := 16) 17 (oi := _) (v := ?_) rfl (by kernel_rfl) (by kernel_rfl) (by kernel_rfl) (by kernel_rfl) (fun _ _ _ h => h) (Or.inl ⟨by rfl, ?_⟩) (by assumption) ?_
          rotate_left
          · (intro w hSw; (try dsimp only at hSw); go_simp; try with_reducible rfl)
          try simp only [Act.put, List.getElem_toArray, List.getElem_cons_zero, List.getElem_cons_succ, List.setIfInBounds_toArray, List.set_cons_zero, List.set_cons_succ]
          refine wpAnyL_take (i := 18) 20 (oi := _) (v := ?_) rfl (by kernel_rfl) (by kernel_rfl) (by kernel_rfl) (by kernel_rfl) (fun _ _ _ h => h) (Or.inl ⟨by rfl, ?_⟩) (by assumption) ?_
          rotate_left
          · (intro w hSw; (try dsimp only at hSw); go_simp; try with_reducible rfl)
          try simp only [Act.put, List.getElem_toArray, List.getElem_cons_zero, List.getElem_cons_succ, List.setIfInBounds_toArray, List.set_cons_zero, List.set_cons_succ]
          refine wpAnyL_take (i := 19) 20 (oi := _) (v := ?_) rfl (by kernel_rfl) (by kernel_rfl) (by kernel_rfl) (by kernel_rfl) (fun _ _ _ h => h) (Or.inl ⟨by rfl, ?_⟩) (by assumption) ?_
          rotate_left
          · (intro w hSw; (try dsimp only at hSw); go_simp; try with_reducible rfl)
          try simp only [Act.put, List.getElem_toArray, List.getElem_cons_zero, List.getElem_cons_succ, List.setIfInBounds_toArray, List.set_cons_zero, List.set_cons_succ]
          refine wpAnyL_one (i := 2) (o := _) (by kernel_rfl) rfl (fun K hK => ?_)
          go_simp
          refine (HC5.out _).mono ?_
          rintro e' w' ⟨rfl, rfl⟩
          try clear hHeld
          refine hK.out _ _ (by (try dsimp only); exact HRD.out _ _ hs) (fun hHeld => ?_)
          clear hK K
          try simp only [Act.put, List.getElem_toArray, List.getElem_cons_zero, List.getElem_cons_succ, List.setIfInBounds_toArray, List.set_cons_zero, List.set_cons_succ]
          refine wpAnyL_take (i := 4) 7 (oi := _) (v := ?_) rfl (by kernel_rfl) (by kernel_rfl) (by kernel_rfl) (by kernel_rfl) (fun _ _ _ h => h) (Or.inl ⟨by rfl, ?_⟩) (by assumption) ?_
          rotate_left
          · (intro w hSw; (try dsimp only at hSw); go_simp; try with_reducible rfl)
          try simp only [Act.put, List.getElem_toArray, List.getElem_cons_zero, List.getElem_cons_succ, List.setIfInBounds_toArray, List.set_cons_zero, List.set_cons_succ]
          refine wpAnyL_take (i := 7) 9 (oi := _) (v := ?_) rfl (by kernel_rfl) (by kernel_rfl) (by kernel_rfl) (by kernel_rfl) (fun _ _ _ h => h) (Or.inl ⟨by rfl, ?_⟩) (by assumption) ?_
          rotate_left
          · (intro w hSw; (try dsimp only at hSw); go_simp; try with_reducible rfl)
          try simp only [Act.put, List.getElem_toArray, List.getElem_cons_zero, List.getElem_cons_succ, List.setIfInBounds_toArray, List.set_cons_zero, List.set_cons_succ]
          refine wpAnyL_take (i := 9) 13 (oi := _) (v := ?_) rfl (by kernel_rfl) (by kernel_rfl) (by kernel_rfl) (by kernel_rfl) (fun _ _ _ h => h) (Or.inl ⟨by rfl, ?_⟩) (by assumption) ?_
          rotate_left
          · (intro w hSw; (try dsimp only at hSw); go_simp; try with_reducible rfl)
          try simp only [Act.put, List.getElem_toArray, List.getElem_cons_zero, List.getElem_cons_succ, List.setIfInBounds_toArray, List.set_cons_zero, List.set_cons_succ]
          refine wpAnyL_take (i := 13) 20 (oi := _) (v := ?_) rfl (by kernel_rfl) (by kernel_rfl) (by kernel_rfl) (by kernel_rfl) (fun _ _ _ h => h) (Or.inl ⟨by rfl, ?_⟩) (by assumption) ?_
          rotate_left
          · (intro w hSw; (try dsimp only at hSw); go_simp; try with_reducible rfl)
          try simp only [Act.put, List.getElem_toArray, List.getElem_cons_zero, List.getElem_cons_succ, List.setIfInBounds_toArray, List.set_cons_zero, List.set_cons_succ]
          refine wpAnyL_one (i := 17) (o := _) (by kernel_rfl) rfl (fun K hK => ?_)
          go_simp
          refine (HC30.out _).mono ?_
          rintro e' w' ⟨rfl, rfl⟩
          try clear hHeld
          refine hK.out _ _ (by (try dsimp only); exact HRD.out _ _ hs) (fun hHeld => ?_)
          clear hK K
          try simp only [Act.put, List.getElem_toArray, List.getElem_cons_zero, List.getElem_cons_succ, List.setIfInBounds_toArray, List.set_cons_zero, List.set_cons_succ]
          refine wpAnyL_take (i := 20) 21 (oi := _) (v := ?_) rfl (by kernel_rfl) (by kernel_rfl) (by kernel_rfl) (by kernel_rfl) (fun _ _ _ h => h) (Or.inl ⟨by rfl, ?_⟩) (by assumption) ?_
          rotate_left
          · (intro w hSw; (try dsimp only at hSw); go_simp; try with_reducible rfl)
          try simp only [Act.put, List.getElem_toArray, List.getElem_cons_zero, List.getElem_cons_succ, List.setIfInBounds_toArray, List.set_cons_zero, List.set_cons_succ]
          refine wpAnyL_last (i := 21) (o := _) (by kernel_rfl) rfl (by kernel_rfl) (by kernel_rfl) (fun K hK => ?_)
          refine step_store_row (by rfl) 97 _ _ (by rfl) u (st5 ⟨v4, a, r30, c', d⟩) (by rfl) (by rfl) 97 _ hs.head info97 rfl (by simp [st5, Value.oneCell']) ?_
          try clear hHeld
          refine hK.out _ _ ?_
          clear hK K
          try simp only [Act.put, List.getElem_toArray, List.getElem_cons_zero, List.getElem_cons_succ, List.setIfInBounds_toArray, List.set_cons_zero, List.set_cons_succ]
          have HS9 := Lib.hid (show St J (bk u 97 (st5 ⟨v4, a, r30, c', d⟩) :: _) _ from hs.setR (st5 ⟨v4, a, r30, c', d⟩))
          clear hs
          go_wp2
          go_roundw
          case rel => exact ⟨t + 1, ⟨v4, a, r30, c', d⟩, by omega, by go_num, Lib.hid ⟨HN.out.symm, HS9.out⟩⟩
          case measure => simp [intOf]; omega
      case rest =>
      have HS7 := hcut
      clear hcut HS5
      obtain ⟨y, hy⟩ : ∃ y, y = roundsN (wordsN bs 64) s 80 := ⟨_, rfl⟩
      rw [← hy] at HS7
      have HY := Lib.hid hy
      clear hy
      go_upto_block 12 with fail
      obtain ⟨s0, s1, s2, s3, s4⟩ := s
      obtain ⟨a, b, c', d, e⟩ := y
      have HS8 := Lib.hid (show St J (bk (r + 1) 97 (st5 (addN ⟨s0, s1, s2, s3, s4⟩ ⟨a, b, c', d, e⟩ 0)) :: bk u 97 (st5 ⟨a, b, c', d, e⟩) :: bk r 61 zero20 :: M) _ from HS7.out.swap2.swap1.drop)
      clear HS7
      go_wp2_with fail
      go_loopw [201] (fun iv wr => ∃ t : Nat, t ≤ 5 ∧ iv = .int .i64 t ∧ Hid (St J (bk (r + 1) 97 (st5 (addN ⟨s0, s1, s2, s3, s4⟩ ⟨a, b, c', d, e⟩ t)) :: bk u 97 (st5 ⟨a, b, c', d, e⟩) :: bk r 61 zero20 :: M) wr)) (fun iv _ => 5 - (intOf iv).toNat)
      case atStart => exact ⟨0, by omega, rfl, HS8⟩
      case round => as_aux_lemma =>
        obtain ⟨t, ht, rfl, HSr⟩ := hrel
        clear HS8
        by_cases hlt : t < 5
        rotate_left
        · obtain rfl : t = 5 := by omega
          have HE : Hid (St J (bk (r + 1) 97 (st5 (blocksN Z (ii + 1))) :: bk r 61 zero20 :: M) wr) := Lib.hid (by
            have e : blocksN Z (ii + 1) = addN ⟨s0, s1, s2, s3, s4⟩ ⟨a, b, c', d, e⟩ 5 := by
              show blockS (blocksN Z ii) ((Z.drop (64 * ii)).take 64) = _
              rw [← HS0.out, ← HP.out.1, ← HBS.out, HY.out]
              rfl
            rw [e]
            exact HSr.out.swap1.drop)
          clear hlt HSr
          go_wp2
          go_roundw
          case rel => exact ⟨ii + 1, p + 64, by have := HP.out.1; omega, hp64, by go_num, HE⟩
          case measure => simp [intOf]; omega
        have h5 : t = 0 ∨ t = 1 ∨ t = 2 ∨ t = 3 ∨ t = 4 := by omega
        clear ht hlt
        rcases h5 with rfl | rfl | rfl | rfl | rfl
        · have hm1 := (u32_mod (wi s0 + wi a)).trans (wi_add s0 a)
          generalize hv : s0 + a = v at hm1
          have HV := Lib.hid hv
          clear hv
          go_upto_region 41 with fail
          have hc1 : wr.drew.cell? ⟨r + 1, 0, none⟩ = some (wv s0) := Blk.cell (show Blk wr.drew (r + 1) 97 (st5 (addN ⟨s0, s1, s2, s3, s4⟩ ⟨a, b, c', d, e⟩ 0)) from HSr.out.drew.head) 0
          have hc2 : wr.drew.cell? ⟨u, 0, none⟩ = some (wv a) := Blk.cell (show Blk wr.drew u 97 (st5 ⟨a, b, c', d, e⟩) from HSr.out.drew.at 1 rfl) 0
          have hf1 := Blk.frozen (show Blk wr.drew (r + 1) 97 _ from HSr.out.drew.head) 0
          go_region
          have HS9 := Lib.hid ((HSr.out.set 0 (wv v)).drew)
          clear HSr hc1 hc2 hf1
          go_wp2
          go_roundw
          case rel => exact ⟨1, by omega, by go_num, by have h := HS9; rw [← HV.out] at h ⊢; exact h⟩
          case measure => simp [intOf]
        · have hm1 := (u32_mod (wi s1 + wi b)).trans (wi_add s1 b)
          generalize hv : s1 + b = v at hm1
          have HV := Lib.hid hv
          clear hv
          go_upto_region 41 with fail
          have hc1 : wr.drew.cell? ⟨r + 1, 1, none⟩ = some (wv s1) := Blk.cell (show Blk wr.drew (r + 1) 97 (st5 (addN ⟨s0, s1, s2, s3, s4⟩ ⟨a, b, c', d, e⟩ 1)) from HSr.out.drew.head) 1
          have hc2 : wr.drew.cell? ⟨u, 1, none⟩ = some (wv b) := Blk.cell (show Blk wr.drew u 97 (st5 ⟨a, b, c', d, e⟩) from HSr.out.drew.at 1 rfl) 1
          have hf1 := Blk.frozen (show Blk wr.drew (r + 1) 97 _ from HSr.out.drew.head) 1
          go_region
          have HS9 := Lib.hid ((HSr.out.set 1 (wv v)).drew)
          clear HSr hc1 hc2 hf1
          go_wp2
          go_roundw
          case rel => exact ⟨2, by omega, by go_num, by have h := HS9; rw [← HV.out] at h ⊢; exact h⟩
          case measure => simp [intOf]
        · have hm1 := (u32_mod (wi s2 + wi c')).trans (wi_add s2 c')
          generalize hv : s2 + c' = v at hm1
          have HV := Lib.hid hv
          clear hv
          go_upto_region 41 with fail
          have hc1 : wr.drew.cell? ⟨r + 1, 2, none⟩ = some (wv s2) := Blk.cell (show Blk wr.drew (r + 1) 97 (st5 (addN ⟨s0, s1, s2, s3, s4⟩ ⟨a, b, c', d, e⟩ 2)) from HSr.out.drew.head) 2
          have hc2 : wr.drew.cell? ⟨u, 2, none⟩ = some (wv c') := Blk.cell (show Blk wr.drew u 97 (st5 ⟨a, b, c', d, e⟩) from HSr.out.drew.at 1 rfl) 2
          have hf1 := Blk.frozen (show Blk wr.drew (r + 1) 97 _ from HSr.out.drew.head) 2
          go_region
          have HS9 := Lib.hid ((HSr.out.set 2 (wv v)).drew)
          clear HSr hc1 hc2 hf1
          go_wp2
          go_roundw
          case rel => exact ⟨3, by omega, by go_num, by have h := HS9; rw [← HV.out] at h ⊢; exact h⟩
          case measure => simp [intOf]
        · have hm1 := (u32_mod (wi s3 + wi d)).trans (wi_add s3 d)
          generalize hv : s3 + d = v at hm1
          have HV := Lib.hid hv
          clear hv
          go_upto_region 41 with fail
          have hc1 : wr.drew.cell? ⟨r + 1, 3, none⟩ = some (wv s3) := Blk.cell (show Blk wr.drew (r + 1) 97 (st5 (addN ⟨s0, s1, s2, s3, s4⟩ ⟨a, b, c', d, e⟩ 3)) from HSr.out.drew.head) 3
          have hc2 : wr.drew.cell? ⟨u, 3, none⟩ = some (wv d) := Blk.cell (show Blk wr.drew u 97 (st5 ⟨a, b, c', d, e⟩) from HSr.out.drew.at 1 rfl) 3
          have hf1 := Blk.frozen (show Blk wr.drew (r + 1) 97 _ from HSr.out.drew.head) 3
          go_region
          have HS9 := Lib.hid ((HSr.out.set 3 (wv v)).drew)
          clear HSr hc1 hc2 hf1
          go_wp2
          go_roundw
          case rel => exact ⟨4, by omega, by go_num, by have h := HS9; rw [← HV.out] at h ⊢; exact h⟩
          case measure => simp [intOf]
        · have hm1 := (u32_mod (wi s4 + wi e)).trans (wi_add s4 e)
          generalize hv : s4 + e = v at hm1
          have HV := Lib.hid hv
          clear hv
          go_upto_region 41 with fail
          have hc1 : wr.drew.cell? ⟨r + 1, 4, none⟩ = some (wv s4) := Blk.cell (show Blk wr.drew (r + 1) 97 (st5 (addN ⟨s0, s1, s2, s3, s4⟩ ⟨a, b, c', d, e⟩ 4)) from HSr.out.drew.head) 4
          have hc2 : wr.drew.cell? ⟨u, 4, none⟩ = some (wv e) := Blk.cell (show Blk wr.drew u 97 (st5 ⟨a, b, c', d, e⟩) from HSr.out.drew.at 1 rfl) 4
          have hf1 := Blk.frozen (show Blk wr.drew (r + 1) 97 _ from HSr.out.drew.head) 4
          go_region
          have HS9 := Lib.hid ((HSr.out.set 4 (wv v)).drew)
          clear HSr hc1 hc2 hf1
          go_wp2
          go_roundw
          case rel => exact ⟨5, by omega, by go_num, by have h := HS9; rw [← HV.out] at h ⊢; exact h⟩
          case measure => simp [intOf]
  case rest =>
  obtain ⟨T, hT⟩ : ∃ s, s = shaS l := ⟨_, rfl⟩
  have HS6 := hcut
  rw [← hT] at HS6
  have HTT := Lib.hid hT
  clear hT hcut HSH HCZ
  obtain ⟨x, hx⟩ : ∃ x, x = wc.heap.size := ⟨_, rfl⟩
  have hs := HS6.out.alloc 61 zero20
  rw [← hx] at hs
  clear HS6
  go_upto_block 14 with fail
  rw [← hx]
  clear hx
  generalize World.alloc _ _ = W6 at hs ⊢
  have HS7 := Lib.hid (show St J (bk x 61 (outC T 0) :: bk (r + 1) 97 (st5 T) :: bk r 61 zero20 :: M) W6 from hs)
  clear hs
  go_wp2_with fail
  go_loopw [214] (fun iv wr => ∃ i : Nat, i ≤ 20 ∧ iv = .int .i64 i ∧ Hid (St J (bk x 61 (outC T i) :: bk (r + 1) 97 (st5 T) :: bk r 61 zero20 :: M) wr)) (fun iv _ => 20 - (intOf iv).toNat)
  case atStart => exact ⟨0, by omega, rfl, HS7⟩
  case round => as_aux_lemma =>
    obtain ⟨i, hi, rfl, HSr⟩ := hrel
    clear HS7
    by_cases h20 : i < 20
    rotate_left
    · obtain rfl : i = 20 := by omega
      clear h20
      have ho20 : outC T 20 = (bvs (outS T)).toArray := by rfl
      have hs := HSr.out
      rw [ho20] at hs
      have hbx : wr.heap[x]? = some (.cells (bvs (outS T)).toArray 61 (0, 0)) := hs.head
      have hbr : wr.heap[r]? = some (.cells zero20 61 (0, 0)) := hs.at 2 rfl
      have hi61 : (Tryd.prog.info? 61).map (·.size) = some (bvs (outS T)).toArray.size := by rw [info61]; rfl
      have HS8 := Lib.hid (hs.setR2 (bvs (outS T)).toArray)
      have ho1 : ((bvs (outS T)).toArray).all (·.oneCell') = true := by rw [List.all_toArray]; exact List.all_eq_true.2 (bvs_one _)
      have hos : zero20.size = (bvs (outS T)).toArray.size := rfl
      obtain ⟨O, hO⟩ : ∃ O, O = (bvs (outS T)).toArray := ⟨_, rfl⟩
      rw [← hO] at hbx hi61 HS8 ho1 hos
      have HO := Lib.hid hO
      clear hs ho20 HSr hO
      go_wp2_with (first | refine wpList_load_row rfl 61 (.tmp 19) rfl x rfl 61 _ (0, 0) _ hbx Tryd.underlying61 rfl hi61 ?_ | refine wpList_store_row rfl 61 (.tmp 2) (.tmp 231) rfl r O rfl rfl 61 _ hbr hi61 hos ho1 ?_)
      refine bodyPost_ret (results_cell_row (p := 2) (ty := 61) rfl _ _ r 61 O (0, 0) _ rfl (HS8.out.at 2 rfl) Tryd.underlying61 rfl hi61) rfl ?_
      exact Ret.mk HL.out HS8.out.drop.drop.drop ⟨by rw [HO.out, HTT.out], rfl⟩
    have hc : i = 0 ∨ i = 1 ∨ i = 2 ∨ i = 3 ∨ i = 4 ∨ i = 5 ∨ i = 6 ∨ i = 7 ∨ i = 8 ∨ i = 9 ∨ i = 10 ∨ i = 11 ∨ i = 12 ∨ i = 13 ∨ i = 14 ∨ i = 15 ∨ i = 16 ∨ i = 17 ∨ i = 18 ∨ i = 19 := by omega
    clear hi h20
    rcases hc with rfl | rfl | rfl | rfl | rfl | rfl | rfl | rfl | rfl | rfl | rfl | rfl | rfl | rfl | rfl | rfl | rfl | rfl | rfl | rfl
    · obtain ⟨b, hb⟩ : ∃ b, b = UInt8.ofNat (T.a.toNat / 16777216) := ⟨_, rfl⟩
      have HT := Lib.hid (show (outC T 0).setIfInBounds 0 (bv b) = outC T 1 by rw [hb]; rfl)
      have hbn : (wi T.a / 16777216) % 256 = (b.toNat : Int) := by rw [hb, UInt8.toNat_ofNat']; unfold wi; omega
      have hbw : IntKind.u8.wrap (wi T.a / 16777216) = (b.toNat : Int) := (u8_mod _).trans hbn
      clear hb
      have y0 := Blk.cell (show Blk wr (r + 1) 97 (st5 T) from HSr.out.at 1 rfl) 0
      have y1 : wr.cell? ⟨r + 1, 0, none⟩ = some (wv T.a) := y0
      obtain ⟨hcX, hfX, hlX⟩ := Blk.all HSr.out.head
      have y2 : wr.cell? ⟨x, 0, none⟩ = some (.int .u8 0) := hcX 0
      clear y0 hcX
      go_wp2
      go_roundw
      case rel => exact ⟨1, by omega, by go_num, Lib.hid (by have h := HSr.out.set 0 (bv b); rw [HT.out] at h; exact h)⟩
      case measure => simp [intOf]
    · obtain ⟨b, hb⟩ : ∃ b, b = UInt8.ofNat (T.a.toNat / 65536) := ⟨_, rfl⟩
      have HT := Lib.hid (show (outC T 1).setIfInBounds 1 (bv b) = outC T 2 by rw [hb]; rfl)
      have hbn : (wi T.a / 65536) % 256 = (b.toNat : Int) := by rw [hb, UInt8.toNat_ofNat']; unfold wi; omega
      have hbw : IntKind.u8.wrap (wi T.a / 65536) = (b.toNat : Int) := (u8_mod _).trans hbn
      clear hb
      have y0 := Blk.cell (show Blk wr (r + 1) 97 (st5 T) from HSr.out.at 1 rfl) 0
      have y1 : wr.cell? ⟨r + 1, 0, none⟩ = some (wv T.a) := y0
      obtain ⟨hcX, hfX, hlX⟩ := Blk.all HSr.out.head
      have y2 : wr.cell? ⟨x, 1, none⟩ = some (.int .u8 0) := hcX 1
      clear y0 hcX
      go_wp2
      go_roundw
      case rel => exact ⟨2, by omega, by go_num, Lib.hid (by have h := HSr.out.set 1 (bv b); rw [HT.out] at h; exact h)⟩
      case measure => simp [intOf]
    · obtain ⟨b, hb⟩ : ∃ b, b = UInt8.ofNat (T.a.toNat / 256) := ⟨_, rfl⟩
      have HT := Lib.hid (show (outC T 2).setIfInBounds 2 (bv b) = outC T 3 by rw [hb]; rfl)
      have hbn : (wi T.a / 256) % 256 = (b.toNat : Int) := by rw [hb, UInt8.toNat_ofNat']; unfold wi; omega
      have hbw : IntKind.u8.wrap (wi T.a / 256) = (b.toNat : Int) := (u8_mod _).trans hbn
      clear hb
      have y0 := Blk.cell (show Blk wr (r + 1) 97 (st5 T) from HSr.out.at 1 rfl) 0
      have y1 : wr.cell? ⟨r + 1, 0, none⟩ = some (wv T.a) := y0
      obtain ⟨hcX, hfX, hlX⟩ := Blk.all HSr.out.head
      have y2 : wr.cell? ⟨x, 2, none⟩ = some (.int .u8 0) := hcX 2
      clear y0 hcX
      go_wp2
      go_roundw
      case rel => exact ⟨3, by omega, by go_num, Lib.hid (by have h := HSr.out.set 2 (bv b); rw [HT.out] at h; exact h)⟩
      case measure => simp [intOf]
    · obtain ⟨b, hb⟩ : ∃ b, b = UInt8.ofNat (T.a.toNat) := ⟨_, rfl⟩
      have HT := Lib.hid (show (outC T 3).setIfInBounds 3 (bv b) = outC T 4 by rw [hb]; rfl)
      have hbn : (wi T.a) % 256 = (b.toNat : Int) := by rw [hb, UInt8.toNat_ofNat']; unfold wi; omega
      have hbw : IntKind.u8.wrap (wi T.a) = (b.toNat : Int) := (u8_mod _).trans hbn
      clear hb
      have y0 := Blk.cell (show Blk wr (r + 1) 97 (st5 T) from HSr.out.at 1 rfl) 0
      have y1 : wr.cell? ⟨r + 1, 0, none⟩ = some (wv T.a) := y0
      obtain ⟨hcX, hfX, hlX⟩ := Blk.all HSr.out.head
      have y2 : wr.cell? ⟨x, 3, none⟩ = some (.int .u8 0) := hcX 3
      clear y0 hcX
      go_wp2
      go_roundw
      case rel => exact ⟨4, by omega, by go_num, Lib.hid (by have h := HSr.out.set 3 (bv b); rw [HT.out] at h; exact h)⟩
      case measure => simp [intOf]
    · obtain ⟨b, hb⟩ : ∃ b, b = UInt8.ofNat (T.b.toNat / 16777216) := ⟨_, rfl⟩
      have HT := Lib.hid (show (outC T 4).setIfInBounds 4 (bv b) = outC T 5 by rw [hb]; rfl)
      have hbn : (wi T.b / 16777216) % 256 = (b.toNat : Int) := by rw [hb, UInt8.toNat_ofNat']; unfold wi; omega
      have hbw : IntKind.u8.wrap (wi T.b / 16777216) = (b.toNat : Int) := (u8_mod _).trans hbn
      clear hb
      have y0 := Blk.cell (show Blk wr (r + 1) 97 (st5 T) from HSr.out.at 1 rfl) 1
      have y1 : wr.cell? ⟨r + 1, 1, none⟩ = some (wv T.b) := y0
      obtain ⟨hcX, hfX, hlX⟩ := Blk.all HSr.out.head
      have y2 : wr.cell? ⟨x, 4, none⟩ = some (.int .u8 0) := hcX 4
      clear y0 hcX
      go_wp2
      go_roundw
      case rel => exact ⟨5, by omega, by go_num, Lib.hid (by have h := HSr.out.set 4 (bv b); rw [HT.out] at h; exact h)⟩
      case measure => simp [intOf]
    · obtain ⟨b, hb⟩ : ∃ b, b = UInt8.ofNat (T.b.toNat / 65536) := ⟨_, rfl⟩
      have HT := Lib.hid (show (outC T 5).setIfInBounds 5 (bv b) = outC T 6 by rw [hb]; rfl)
      have hbn : (wi T.b / 65536) % 256 = (b.toNat : Int) := by rw [hb, UInt8.toNat_ofNat']; unfold wi; omega
      have hbw : IntKind.u8.wrap (wi T.b / 65536) = (b.toNat : Int) := (u8_mod _).trans hbn
      clear hb
      have y0 := Blk.cell (show Blk wr (r + 1) 97 (st5 T) from HSr.out.at 1 rfl) 1
      have y1 : wr.cell? ⟨r + 1, 1, none⟩ = some (wv T.b) := y0
      obtain ⟨hcX, hfX, hlX⟩ := Blk.all HSr.out.head
      have y2 : wr.cell? ⟨x, 5, none⟩ = some (.int .u8 0) := hcX 5
      clear y0 hcX
      go_wp2
      go_roundw
      case rel => exact ⟨6, by omega, by go_num, Lib.hid (by have h := HSr.out.set 5 (bv b); rw [HT.out] at h; exact h)⟩
      case measure => simp [intOf]
    · obtain ⟨b, hb⟩ : ∃ b, b = UInt8.ofNat (T.b.toNat / 256) := ⟨_, rfl⟩
      have HT := Lib.hid (show (outC T 6).setIfInBounds 6 (bv b) = outC T 7 by rw [hb]; rfl)
      have hbn : (wi T.b / 256) % 256 = (b.toNat : Int) := by rw [hb, UInt8.toNat_ofNat']; unfold wi; omega
      have hbw : IntKind.u8.wrap (wi T.b / 256) = (b.toNat : Int) := (u8_mod _).trans hbn
      clear hb
      have y0 := Blk.cell (show Blk wr (r + 1) 97 (st5 T) from HSr.out.at 1 rfl) 1
      have y1 : wr.cell? ⟨r + 1, 1, none⟩ = some (wv T.b) := y0
      obtain ⟨hcX, hfX, hlX⟩ := Blk.all HSr.out.head
      have y2 : wr.cell? ⟨x, 6, none⟩ = some (.int .u8 0) := hcX 6
      clear y0 hcX
      go_wp2
      go_roundw
      case rel => exact ⟨7, by omega, by go_num, Lib.hid (by have h := HSr.out.set 6 (bv b); rw [HT.out] at h; exact h)⟩
      case measure => simp [intOf]
    · obtain ⟨b, hb⟩ : ∃ b, b = UInt8.ofNat (T.b.toNat) := ⟨_, rfl⟩
      have HT := Lib.hid (show (outC T 7).setIfInBounds 7 (bv b) = outC T 8 by rw [hb]; rfl)
      have hbn : (wi T.b) % 256 = (b.toNat : Int) := by rw [hb, UInt8.toNat_ofNat']; unfold wi; omega
      have hbw : IntKind.u8.wrap (wi T.b) = (b.toNat : Int) := (u8_mod _).trans hbn
      clear hb
      have y0 := Blk.cell (show Blk wr (r + 1) 97 (st5 T) from HSr.out.at 1 rfl) 1
      have y1 : wr.cell? ⟨r + 1, 1, none⟩ = some (wv T.b) := y0
      obtain ⟨hcX, hfX, hlX⟩ := Blk.all HSr.out.head
      have y2 : wr.cell? ⟨x, 7, none⟩ = some (.int .u8 0) := hcX 7
      clear y0 hcX
      go_wp2
      go_roundw
      case rel => exact ⟨8, by omega, by go_num, Lib.hid (by have h := HSr.out.set 7 (bv b); rw [HT.out] at h; exact h)⟩
      case measure => simp [intOf]
    · obtain ⟨b, hb⟩ : ∃ b, b = UInt8.ofNat (T.c.toNat / 16777216) := ⟨_, rfl⟩
      have HT := Lib.hid (show (outC T 8).setIfInBounds 8 (bv b) = outC T 9 by rw [hb]; rfl)
      have hbn : (wi T.c / 16777216) % 256 = (b.toNat : Int) := by rw [hb, UInt8.toNat_ofNat']; unfold wi; omega
      have hbw : IntKind.u8.wrap (wi T.c / 16777216) = (b.toNat : Int) := (u8_mod _).trans hbn
      clear hb
      have y0 := Blk.cell (show Blk wr (r + 1) 97 (st5 T) from HSr.out.at 1 rfl) 2
      have y1 : wr.cell? ⟨r + 1, 2, none⟩ = some (wv T.c) := y0
      obtain ⟨hcX, hfX, hlX⟩ := Blk.all HSr.out.head
      have y2 : wr.cell? ⟨x, 8, none⟩ = some (.int .u8 0) := hcX 8
      clear y0 hcX
      go_wp2
      go_roundw
      case rel => exact ⟨9, by omega, by go_num, Lib.hid (by have h := HSr.out.set 8 (bv b); rw [HT.out] at h; exact h)⟩
      case measure => simp [intOf]
    · obtain ⟨b, hb⟩ : ∃ b, b = UInt8.ofNat (T.c.toNat / 65536) := ⟨_, rfl⟩
      have HT := Lib.hid (show (outC T 9).setIfInBounds 9 (bv b) = outC T 10 by rw [hb]; rfl)
      have hbn : (wi T.c / 65536) % 256 = (b.toNat : Int) := by rw [hb, UInt8.toNat_ofNat']; unfold wi; omega
      have hbw : IntKind.u8.wrap (wi T.c / 65536) = (b.toNat : Int) := (u8_mod _).trans hbn
      clear hb
      have y0 := Blk.cell (show Blk wr (r + 1) 97 (st5 T) from HSr.out.at 1 rfl) 2
      have y1 : wr.cell? ⟨r + 1, 2, none⟩ = some (wv T.c) := y0
      obtain ⟨hcX, hfX, hlX⟩ := Blk.all HSr.out.head
      have y2 : wr.cell? ⟨x, 9, none⟩ = some (.int .u8 0) := hcX 9
      clear y0 hcX
      go_wp2
      go_roundw
      case rel => exact ⟨10, by omega, by go_num, Lib.hid (by have h := HSr.out.set 9 (bv b); rw [HT.out] at h; exact h)⟩
      case measure => simp [intOf]
    · obtain ⟨b, hb⟩ : ∃ b, b = UInt8.ofNat (T.c.toNat / 256) := ⟨_, rfl⟩
      have HT := Lib.hid (show (outC T 10).setIfInBounds 10 (bv b) = outC T 11 by rw [hb]; rfl)
      have hbn : (wi T.c / 256) % 256 = (b.toNat : Int) := by rw [hb, UInt8.toNat_ofNat']; unfold wi; omega
      have hbw : IntKind.u8.wrap (wi T.c / 256) = (b.toNat : Int) := (u8_mod _).trans hbn
      clear hb
      have y0 := Blk.cell (show Blk wr (r + 1) 97 (st5 T) from HSr.out.at 1 rfl) 2
      have y1 : wr.cell? ⟨r + 1, 2, none⟩ = some (wv T.c) := y0
      obtain ⟨hcX, hfX, hlX⟩ := Blk.all HSr.out.head
      have y2 : wr.cell? ⟨x, 10, none⟩ = some (.int .u8 0) := hcX 10
      clear y0 hcX
      go_wp2
      go_roundw
      case rel => exact ⟨11, by omega, by go_num, Lib.hid (by have h := HSr.out.set 10 (bv b); rw [HT.out] at h; exact h)⟩
      case measure => simp [intOf]
    · obtain ⟨b, hb⟩ : ∃ b, b = UInt8.ofNat (T.c.toNat) := ⟨_, rfl⟩
      have HT := Lib.hid (show (outC T 11).setIfInBounds 11 (bv b) = outC T 12 by rw [hb]; rfl)
      have hbn : (wi T.c) % 256 = (b.toNat : Int) := by rw [hb, UInt8.toNat_ofNat']; unfold wi; omega
      have hbw : IntKind.u8.wrap (wi T.c) = (b.toNat : Int) := (u8_mod _).trans hbn
      clear hb
      have y0 := Blk.cell (show Blk wr (r + 1) 97 (st5 T) from HSr.out.at 1 rfl) 2
      have y1 : wr.cell? ⟨r + 1, 2, none⟩ = some (wv T.c) := y0
      obtain ⟨hcX, hfX, hlX⟩ := Blk.all HSr.out.head
      have y2 : wr.cell? ⟨x, 11, none⟩ = some (.int .u8 0) := hcX 11
      clear y0 hcX
      go_wp2
      go_roundw
      case rel => exact ⟨12, by omega, by go_num, Lib.hid (by have h := HSr.out.set 11 (bv b); rw [HT.out] at h; exact h)⟩
      case measure => simp [intOf]
    · obtain ⟨b, hb⟩ : ∃ b, b = UInt8.ofNat (T.d.toNat / 16777216) := ⟨_, rfl⟩
      have HT := Lib.hid (show (outC T 12).setIfInBounds 12 (bv b) = outC T 13 by rw [hb]; rfl)
      have hbn : (wi T.d / 16777216) % 256 = (b.toNat : Int) := by rw [hb, UInt8.toNat_ofNat']; unfold wi; omega
      have hbw : IntKind.u8.wrap (wi T.d / 16777216) = (b.toNat : Int) := (u8_mod _).trans hbn
      clear hb
      have y0 := Blk.cell (show Blk wr (r + 1) 97 (st5 T) from HSr.out.at 1 rfl) 3
      have y1 : wr.cell? ⟨r + 1, 3, none⟩ = some (wv T.d) := y0
      obtain ⟨hcX, hfX, hlX⟩ := Blk.all HSr.out.head
      have y2 : wr.cell? ⟨x, 12, none⟩ = some (.int .u8 0) := hcX 12
      clear y0 hcX
      go_wp2
      go_roundw
      case rel => exact ⟨13, by omega, by go_num, Lib.hid (by have h := HSr.out.set 12 (bv b); rw [HT.out] at h; exact h)⟩
      case measure => simp [intOf]
    · obtain ⟨b, hb⟩ : ∃ b, b = UInt8.ofNat (T.d.toNat / 65536) := ⟨_, rfl⟩
      have HT := Lib.hid (show (outC T 13).setIfInBounds 13 (bv b) = outC T 14 by rw [hb]; rfl)
      have hbn : (wi T.d / 65536) % 256 = (b.toNat : Int) := by rw [hb, UInt8.toNat_ofNat']; unfold wi; omega
      have hbw : IntKind.u8.wrap (wi T.d / 65536) = (b.toNat : Int) := (u8_mod _).trans hbn
      clear hb
      have y0 := Blk.cell (show Blk wr (r + 1) 97 (st5 T) from HSr.out.at 1 rfl) 3
      have y1 : wr.cell? ⟨r + 1, 3, none⟩ = some (wv T.d) := y0
      obtain ⟨hcX, hfX, hlX⟩ := Blk.all HSr.out.head
      have y2 : wr.cell? ⟨x, 13, none⟩ = some (.int .u8 0) := hcX 13
      clear y0 hcX
      go_wp2
      go_roundw
      case rel => exact ⟨14, by omega, by go_num, Lib.hid (by have h := HSr.out.set 13 (bv b); rw [HT.out] at h; exact h)⟩
      case measure => simp [intOf]
    · obtain ⟨b, hb⟩ : ∃ b, b = UInt8.ofNat (T.d.toNat / 256) := ⟨_, rfl⟩
      have HT := Lib.hid (show (outC T 14).setIfInBounds 14 (bv b) = outC T 15 by rw [hb]; rfl)
      have hbn : (wi T.d / 256) % 256 = (b.toNat : Int) := by rw [hb, UInt8.toNat_ofNat']; unfold wi; omega
      have hbw : IntKind.u8.wrap (wi T.d / 256) = (b.toNat : Int) := (u8_mod _).trans hbn
      clear hb
      have y0 := Blk.cell (show Blk wr (r + 1) 97 (st5 T) from HSr.out.at 1 rfl) 3
      have y1 : wr.cell? ⟨r + 1, 3, none⟩ = some (wv T.d) := y0
      obtain ⟨hcX, hfX, hlX⟩ := Blk.all HSr.out.head
      have y2 : wr.cell? ⟨x, 14, none⟩ = some (.int .u8 0) := hcX 14
      clear y0 hcX
      go_wp2
      go_roundw
      case rel => exact ⟨15, by omega, by go_num, Lib.hid (by have h := HSr.out.set 14 (bv b); rw [HT.out] at h; exact h)⟩
      case measure => simp [intOf]
    · obtain ⟨b, hb⟩ : ∃ b, b = UInt8.ofNat (T.d.toNat) := ⟨_, rfl⟩
      have HT := Lib.hid (show (outC T 15).setIfInBounds 15 (bv b) = outC T 16 by rw [hb]; rfl)
      have hbn : (wi T.d) % 256 = (b.toNat : Int) := by rw [hb, UInt8.toNat_ofNat']; unfold wi; omega
      have hbw : IntKind.u8.wrap (wi T.d) = (b.toNat : Int) := (u8_mod _).trans hbn
      clear hb
      have y0 := Blk.cell (show Blk wr (r + 1) 97 (st5 T) from HSr.out.at 1 rfl) 3
      have y1 : wr.cell? ⟨r + 1, 3, none⟩ = some (wv T.d) := y0
      obtain ⟨hcX, hfX, hlX⟩ := Blk.all HSr.out.head
      have y2 : wr.cell? ⟨x, 15, none⟩ = some (.int .u8 0) := hcX 15
      clear y0 hcX
      go_wp2
      go_roundw
      case rel => exact ⟨16, by omega, by go_num, Lib.hid (by have h := HSr.out.set 15 (bv b); rw [HT.out] at h; exact h)⟩
      case measure => simp [intOf]
    · obtain ⟨b, hb⟩ : ∃ b, b = UInt8.ofNat (T.e.toNat / 16777216) := ⟨_, rfl⟩
      have HT := Lib.hid (show (outC T 16).setIfInBounds 16 (bv b) = outC T 17 by rw [hb]; rfl)
      have hbn : (wi T.e / 16777216) % 256 = (b.toNat : Int) := by rw [hb, UInt8.toNat_ofNat']; unfold wi; omega
      have hbw : IntKind.u8.wrap (wi T.e / 16777216) = (b.toNat : Int) := (u8_mod _).trans hbn
      clear hb
      have y0 := Blk.cell (show Blk wr (r + 1) 97 (st5 T) from HSr.out.at 1 rfl) 4
      have y1 : wr.cell? ⟨r + 1, 4, none⟩ = some (wv T.e) := y0
      obtain ⟨hcX, hfX, hlX⟩ := Blk.all HSr.out.head
      have y2 : wr.cell? ⟨x, 16, none⟩ = some (.int .u8 0) := hcX 16
      clear y0 hcX
      go_wp2
      go_roundw
      case rel => exact ⟨17, by omega, by go_num, Lib.hid (by have h := HSr.out.set 16 (bv b); rw [HT.out] at h; exact h)⟩
      case measure => simp [intOf]
    · obtain ⟨b, hb⟩ : ∃ b, b = UInt8.ofNat (T.e.toNat / 65536) := ⟨_, rfl⟩
      have HT := Lib.hid (show (outC T 17).setIfInBounds 17 (bv b) = outC T 18 by rw [hb]; rfl)
      have hbn : (wi T.e / 65536) % 256 = (b.toNat : Int) := by rw [hb, UInt8.toNat_ofNat']; unfold wi; omega
      have hbw : IntKind.u8.wrap (wi T.e / 65536) = (b.toNat : Int) := (u8_mod _).trans hbn
      clear hb
      have y0 := Blk.cell (show Blk wr (r + 1) 97 (st5 T) from HSr.out.at 1 rfl) 4
      have y1 : wr.cell? ⟨r + 1, 4, none⟩ = some (wv T.e) := y0
      obtain ⟨hcX, hfX, hlX⟩ := Blk.all HSr.out.head
      have y2 : wr.cell? ⟨x, 17, none⟩ = some (.int .u8 0) := hcX 17
      clear y0 hcX
      go_wp2
      go_roundw
      case rel => exact ⟨18, by omega, by go_num, Lib.hid (by have h := HSr.out.set 17 (bv b); rw [HT.out] at h; exact h)⟩
      case measure => simp [intOf]
    · obtain ⟨b, hb⟩ : ∃ b, b = UInt8.ofNat (T.e.toNat / 256) := ⟨_, rfl⟩
      have HT := Lib.hid (show (outC T 18).setIfInBounds 18 (bv b) = outC T 19 by rw [hb]; rfl)
      have hbn : (wi T.e / 256) % 256 = (b.toNat : Int) := by rw [hb, UInt8.toNat_ofNat']; unfold wi; omega
      have hbw : IntKind.u8.wrap (wi T.e / 256) = (b.toNat : Int) := (u8_mod _).trans hbn
      clear hb
      have y0 := Blk.cell (show Blk wr (r + 1) 97 (st5 T) from HSr.out.at 1 rfl) 4
      have y1 : wr.cell? ⟨r + 1, 4, none⟩ = some (wv T.e) := y0
      obtain ⟨hcX, hfX, hlX⟩ := Blk.all HSr.out.head
      have y2 : wr.cell? ⟨x, 18, none⟩ = some (.int .u8 0) := hcX 18
      clear y0 hcX
      go_wp2
      go_roundw
      case rel => exact ⟨19, by omega, by go_num, Lib.hid (by have h := HSr.out.set 18 (bv b); rw [HT.out] at h; exact h)⟩
      case measure => simp [intOf]
    · obtain ⟨b, hb⟩ : ∃ b, b = UInt8.ofNat (T.e.toNat) := ⟨_, rfl⟩
      have HT := Lib.hid (show (outC T 19).setIfInBounds 19 (bv b) = outC T 20 by rw [hb]; rfl)
      have hbn : (wi T.e) % 256 = (b.toNat : Int) := by rw [hb, UInt8.toNat_ofNat']; unfold wi; omega
      have hbw : IntKind.u8.wrap (wi T.e) = (b.toNat : Int) := (u8_mod _).trans hbn
      clear hb
      have y0 := Blk.cell (show Blk wr (r + 1) 97 (st5 T) from HSr.out.at 1 rfl) 4
      have y1 : wr.cell? ⟨r + 1, 4, none⟩ = some (wv T.e) := y0
      obtain ⟨hcX, hfX, hlX⟩ := Blk.all HSr.out.head
      have y2 : wr.cell? ⟨x, 19, none⟩ = some (.int .u8 0) := hcX 19
      clear y0 hcX
      go_wp2
      go_roundw
      case rel => exact ⟨20, by omega, by go_num, Lib.hid (by have h := HSr.out.set 19 (bv b); rw [HT.out] at h; exact h)⟩
      case measure => simp [intOf]
end Go.Proofs.YtakgdmcekhafoaaDoor
