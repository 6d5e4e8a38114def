/- the document's pieces. -/
import Derived.Test.YtddopbbmgpnjjaaRdD
namespace Go.Proofs.Ytddopbbmgpnjjaa
open Go.RowKit
set_option linter.unusedSimpArgs false

def boC (tl : List Bool) : Array Value := (tl.map Value.bool).toArray
theorem boC_get (tl : List Bool) (k : Nat) (h : k < tl.length) : (boC tl)[k]? = some (.bool tl[k]) := by
  simp [boC, h]
theorem boC_set (tl : List Bool) (k : Nat) : (boC tl).setIfInBounds k (.bool true) = boC (tl.set k true) := by
  simp [boC, List.map_set]
theorem made_false (n : Nat) : madeCells (Value.bool false).cells n = boC (List.replicate n false) := by
  apply Array.ext
  · rw [size_madeCells]; simp [boC]
  · intro i h1 h2
    simp [madeCells, Value.cells, boC, Nat.mod_one]
theorem info4 : (Try.prog.info? 4).map (fun i => (i.zero, i.size, i.bytes)) = some (some (.bool false), 1, 1) := by kernel_rfl
theorem mkB (w : World) (n : Nat) (hn : n ≤ 255) : (Instr.makeSlice 117 (.int .i64 (n : Int)) (.int .i64 (n : Int))).run Try.prog w = .ok (.slice (some ⟨w.heap.size, 0, none⟩) n n) (w.alloc (.cells (boC (List.replicate n false)) 4)) := by
  obtain ⟨i0, hi, hz0, hz1, hz2⟩ := info_parts info4
  have h := run_makeSlice (P := Try.prog) w 117 4 i0 (.bool false) Try.underlying117 hi hz0 .i64 .i64 n n (by omega) (by omega) (by rw [hz1]; simp; omega) (by rw [hz2]; omega) (by omega)
  rw [h, hz1, Nat.mul_one, Int.toNat_natCast, made_false]
theorem wrap64_id {x : Int} (h0 : -9223372036854775808 ≤ x) (h1 : x ≤ 9223372036854775807) : wrap64 x = x := by
  unfold wrap64
  omega
theorem nothing_near {tl : List Bool} {ls : List Int} {i k : Nat} {s x m : Int} {hk : k < ls.length} (h : Hid ((∀ j (hj : j < tl.length) (hj2 : j < ls.length), i < j → tl[j] = (decide (j < k) && nearB s ls[j])) ∧ (maskL s ((ls.drop (i + 1)).take (k + 1 - (i + 1))) = if nearB s ls[k] = true then bitL s ls[k] m else m) ∧ x = ls[k] ∧ 0 ≤ m ∧ m ≤ 65535)) (hn : nearB s x = false) :
    m = maskL s ((ls.drop (i + 1)).take (k + 1 - (i + 1))) ∧ ∀ j (hj : j < tl.length) (hj2 : j < ls.length), i < j → tl[j] = (decide (j < k + 1) && nearB s ls[j]) := by
  obtain ⟨h1, h2, rfl, _⟩ := h.out
  refine ⟨by rw [h2, hn]; rfl, fun j hj hj2 hij => ?_⟩
  rw [h1 j hj hj2 hij]
  by_cases e : j = k
  · subst e; rw [hn]; simp
  · congr 1; exact decide_eq_decide.2 ⟨fun _ => by omega, fun _ => by omega⟩
theorem some_near {tl : List Bool} {ls : List Int} {i k : Nat} {s x m : Int} {hk : k < ls.length} (h : Hid ((∀ j (hj : j < tl.length) (hj2 : j < ls.length), i < j → tl[j] = (decide (j < k) && nearB s ls[j])) ∧ (maskL s ((ls.drop (i + 1)).take (k + 1 - (i + 1))) = if nearB s ls[k] = true then bitL s ls[k] m else m) ∧ x = ls[k] ∧ 0 ≤ m ∧ m ≤ 65535)) (hn : nearB s x = true) :
    bitL s x m = maskL s ((ls.drop (i + 1)).take (k + 1 - (i + 1))) ∧ ∀ j (hj : j < (tl.set k true).length) (hj2 : j < ls.length), i < j → (tl.set k true)[j] = (decide (j < k + 1) && nearB s ls[j]) := by
  obtain ⟨h1, h2, rfl, _⟩ := h.out
  refine ⟨by rw [h2, hn]; rfl, fun j hj hj2 hij => ?_⟩
  rw [List.getElem_set]
  by_cases e : k = j
  · subst e; rw [hn]; simp
  · rw [if_neg e, h1 j (by rw [List.length_set] at hj; exact hj) hj2 hij]
    congr 1; exact decide_eq_decide.2 ⟨fun _ => by omega, fun _ => by omega⟩
set_option maxRecDepth 8000 in
set_option maxHeartbeats 8000000 in
theorem piecesR (I : Img) (M : List Res) (w : World) (A : Option Addr) (z : Nat) (l : List Int) (hc : Cells I A (flat u16C l)) (hrng : ∀ x ∈ l, 0 ≤ x ∧ x ≤ 65535) (hl : l.length ≤ 32) (hord : Ord l) (hst : St I M w) :
    Calls Try.prog 38 #[.slice A l.length z] w (Frz I M (piecesB l)) := by
  have HC := Lib.hid hc
  have HRN := Lib.hid hrng
  have HO := Lib.hid hord
  have hs1 := hst.alloc 4 (boC (List.replicate l.length false))
  obtain ⟨q, hq⟩ : ∃ q, q = w.heap.size := ⟨_, rfl⟩
  rw [← hq] at hs1
  have HS := Lib.hid hs1
  have hmk := mkB w l.length (by omega)
  clear hc hrng hord hst hs1
  go_enter Try.func38, Try.ntmps38
  go_upto_region 4 with fail
  rw [← hq]
  generalize World.alloc w _ = W at HS ⊢
  clear hmk hq
  go_loopw [3, 14] (fun ov iv wr => ∃ (i : Nat) (A0 : Option Addr) (c0 : Nat) (acc : List UInt8), ov = .slice A0 acc.length c0 ∧ i ≤ l.length ∧ iv = .int .i64 i ∧ Hid (∃ (J : Img) (c : Nat) (tl : List Bool), I.le J ∧ St J (bk q 4 (boC tl) :: M) wr ∧ Byts J A0 acc ∧ acc ++ piecesB (l.drop c) = piecesB l ∧ (i ≤ c ∧ c ≤ l.length) ∧ tl.length = l.length ∧ ∀ k (hk : k < tl.length), i ≤ k → tl[k] = decide (k < c))) (fun _ iv _ => l.length - (intOf iv).toNat)
  case atStart => exact ⟨0, none, 0, [], rfl, by omega, rfl, Lib.hid ⟨I, 0, List.replicate l.length false, .refl I, HS.out, Byts.nil _ _, by simp, ⟨Nat.le_refl _, Nat.zero_le _⟩, by simp, fun k hk _ => by simp⟩⟩
  case round =>
    obtain ⟨i, A0, c0, acc, rfl, hi, rfl, hh⟩ := hrel
    clear HS
    obtain ⟨J0, c, tl, hle0, hs0, hb0, hpc, ⟨hic, hcn⟩, htl, htd⟩ := hh.out
    clear hh
    by_cases hlt : i < l.length
    · skip
      obtain ⟨hcq, hfq, hlq⟩ := Blk.all (hs0.at 0 rfl)
      have hti := htd i (by omega) (Nat.le_refl _)
      have y0 : wr.cell? ⟨q, i, none⟩ = some (.bool tl[i]) := by rw [hcq, boC_get tl i (by omega)]
      by_cases hci : i < c
      · rw [hti, decide_eq_true hci] at y0
        have HF := Lib.hid (show ∃ (J : Img) (c : Nat) (tl : List Bool), I.le J ∧ St J (bk q 4 (boC tl) :: M) wr ∧ Byts J A0 acc ∧ acc ++ piecesB (l.drop c) = piecesB l ∧ (i + 1 ≤ c ∧ c ≤ l.length) ∧ tl.length = l.length ∧ ∀ k (hk : k < tl.length), i + 1 ≤ k → tl[k] = decide (k < c) from ⟨J0, c, tl, hle0, hs0, hb0, hpc, ⟨by omega, hcn⟩, htl, fun k hk h => htd k hk (by omega)⟩)
        clear hs0 hb0 hpc htd hcq hfq hti
        go_wp2
        go_roundw
        case rel => exact ⟨i + 1, A0, c0, acc, rfl, by omega, by go_num, HF⟩
        case measure => simp [intOf]; omega
      have hice : i = c := by omega
      subst hice
      rw [hti, decide_eq_false hci] at y0
      obtain ⟨c', hcc, hcn', hfar, hnear⟩ := far_cut HO.out i hlt
      have HPD := Lib.hid (pieces_drop hlt hfar)
      have HNR := Lib.hid hnear
      have HPC := Lib.hid hpc
      have HLE := Lib.hid hle0
      have HB0 := Lib.hid hb0
      have HT0 := Lib.hid htd
      have HS0 := Lib.hid hs0
      obtain ⟨g, o, rfl, hcell⟩ := flat_get (s := 1) (fun _ => rfl) (HC.out.mono hle0) (by omega) (by decide)
      have HCL := Lib.hid hcell
      obtain ⟨s, hse⟩ : ∃ s, s = l[i] := ⟨_, rfl⟩
      have hsr := HRN.out _ (List.getElem_mem hlt)
      rw [← hse] at HPD HNR hsr
      have ys : ∀ (M' : List Res) (w' : World), St J0 M' w' → w'.cell? ⟨g, o + i, none⟩ = some (.int .u16 s) := fun M' w' h => by
        have := hcell M' w' h i hlt 0 (by decide)
        rw [hse]
        simpa using this
      have HYS := Lib.hid ys
      obtain ⟨hs1, hs2⟩ := hsr
      clear hs0 hb0 hpc htd hcq hfq hti hfar hnear hle0 hcell hse ys
      go_upto_region 9 with fail
      clear y0 hlq
      go_loopw [6, 7] (fun mv kv wr' => ∃ (k : Nat) (m : Int), mv = .int .i64 m ∧ kv = .int .i64 k ∧ i + 1 ≤ k ∧ k ≤ l.length ∧ Hid (m = maskL s ((l.drop (i + 1)).take (k - (i + 1))) ∧ ∃ tl2 : List Bool, tl2.length = l.length ∧ St J0 (bk q 4 (boC tl2) :: M) wr' ∧ ∀ j (hj : j < tl2.length) (hj2 : j < l.length), i < j → tl2[j] = (decide (j < k) && nearB s l[j]))) (fun _ kv _ => l.length - (intOf kv).toNat)
      case atStart => exact ⟨i + 1, 0, rfl, by go_num, by omega, by omega, Lib.hid ⟨by simp [maskL], tl, htl, HS0.out, fun j hj hj2 hij => by rw [HT0.out j hj (by omega), decide_eq_false (by omega), decide_eq_false (by omega)]; rfl⟩⟩
      case round =>
        obtain ⟨k, m, rfl, rfl, hik, hkn, hh⟩ := hrel
        obtain ⟨hm, tl2, htl2, hsk, htk⟩ := hh.out
        clear hh
        by_cases hkl : k < l.length
        · skip
          have yk : wr.cell? ⟨g, o + k, none⟩ = some (.int .u16 l[k]) := by
            have := HCL.out _ _ hsk k hkl 0 (by decide)
            simpa using this
          have ys := HYS.out _ _ hsk
          have hxr := HRN.out _ (List.getElem_mem hkl)
          have htake : (l.drop (i + 1)).take (k + 1 - (i + 1)) = (l.drop (i + 1)).take (k - (i + 1)) ++ [l[k]] := by
            have e : k + 1 - (i + 1) = k - (i + 1) + 1 := by omega
            rw [e, List.take_succ_eq_append_getElem (by rw [List.length_drop]; omega), List.getElem_drop]
            congr 3
            omega
          have hms := maskL_snoc s ((l.drop (i + 1)).take (k - (i + 1))) l[k]
          rw [← htake, ← hm] at hms
          have hmr := maskL_ok s ((l.drop (i + 1)).take (k - (i + 1)))
          rw [← hm] at hmr
          obtain ⟨x, hxe⟩ : ∃ x, x = l[k] := ⟨_, rfl⟩
          have HTK := Lib.hid (And.intro htk (And.intro hms (And.intro hxe hmr)))
          rw [← hxe] at yk hxr hms
          obtain ⟨hx1, hx2⟩ := hxr
          obtain ⟨hm1, hm2⟩ := hmr
          have HSK := Lib.hid hsk
          clear hsk htk htake hxe hm hms
          obtain ⟨D, hD⟩ : ∃ D, D = IntKind.u16.wrap (x - s) := ⟨_, rfl⟩
          have hDm : D = (x - s) % 65536 := by rw [hD, u16_mod]
          have hD1 : 0 ≤ D := by omega
          have hD2 : D ≤ 65535 := by omega
          have hnb : nearB s x = (decide (1 ≤ D) && decide (D ≤ 16)) := by
            unfold nearB dst
            rw [Bool.eq_iff_iff]
            simp only [Bool.and_eq_true, decide_eq_true_eq]
            omega
          have hdd : 1 ≤ D → (dst s x).toNat = (D - 1).toNat := fun h => by unfold dst; congr 1; omega
          have HD := Lib.hid (And.intro hDm (And.intro hnb hdd))
          replace hD := hD.symm
          clear hDm hnb hdd
          go_upto_region 11 with fail
          go_quiet (fail)
          have HS1 := Lib.hid (HSK.out.drewN nq)
          generalize World.drewN wr nq = W2 at HS1 ⊢
          clear HSK yk ys hD
          by_cases hn0 : D < 1
          · skip
            have hnx : nearB s x = false := by rw [HD.out.2.1, decide_eq_false (by omega)]; rfl
            have HR := Lib.hid (nothing_near (tl := tl2) HTK hnx)
            go_wp2
            go_roundw
            case rel => exact ⟨k + 1, m, rfl, by go_num, by omega, by omega, Lib.hid ⟨HR.out.1, tl2, htl2, HS1.out, HR.out.2⟩⟩
            case measure => simp [intOf]; omega
          have hn1 : 1 ≤ D := by omega
          by_cases hn2 : D ≤ 16
          · skip
            have hnx : nearB s x = true := by rw [HD.out.2.1, decide_eq_true hn1, decide_eq_true hn2]; rfl
            have hbit : bits BinOp.or IntKind.i64 m (wrap64 (2 ^ (D.toNat - 1))) = bitL s x m := by
              rw [← bit_same ⟨hm1, hm2⟩ hnx, HD.out.2.2 hn1]
              have hsh : (2 : Int) ^ (D - 1).toNat ≤ 32768 ∧ 0 ≤ (2 : Int) ^ (D - 1).toNat := by
                have h : (2 : Nat) ^ (D - 1).toNat ≤ 2 ^ 15 := Nat.pow_le_pow_right (by decide) (by omega)
                have h2 : ((2 : Int) ^ (D - 1).toNat) = ((2 ^ (D - 1).toNat : Nat) : Int) := by simp
                rw [h2]
                generalize (2 : Nat) ^ (D - 1).toNat = p at h ⊢
                omega
              have e : D.toNat - 1 = (D - 1).toNat := by omega
              rw [e, wrap64_id (by omega) (by omega)]
            have hbr : 0 ≤ bitL s x m ∧ bitL s x m ≤ 65535 := bits_u16 _ _ _ rfl
            have HR := Lib.hid (some_near (tl := tl2) HTK hnx)
            obtain ⟨m2, hm2e⟩ : ∃ m2, m2 = bitL s x m := ⟨_, rfl⟩
            rw [← hm2e] at hbit hbr HR
            obtain ⟨hbr1, hbr2⟩ := hbr
            clear hm2e
            obtain ⟨hcq, hfq, hlq⟩ := Blk.all (HS1.out.at 0 rfl)
            have y0 : W2.cell? ⟨q, k, none⟩ = some (.bool tl2[k]) := by rw [hcq, boC_get tl2 k (by omega)]
            have hs3 := HS1.out.set k (.bool true)
            rw [boC_set] at hs3
            have HS3 := Lib.hid hs3
            clear hs3 HS1 hcq
            go_wp2
            go_roundw
            case rel => exact ⟨k + 1, m2, rfl, by go_num, by omega, by omega, Lib.hid ⟨HR.out.1, tl2.set k true, by rw [List.length_set]; exact htl2, HS3.out, HR.out.2⟩⟩
            case measure => simp [intOf]; omega
          have hnx : nearB s x = false := by rw [HD.out.2.1, decide_eq_false hn2, Bool.and_false]
          have HR := Lib.hid (nothing_near (tl := tl2) HTK hnx)
          go_wp2
          go_roundw
          case rel => exact ⟨k + 1, m, rfl, by go_num, by omega, by omega, Lib.hid ⟨HR.out.1, tl2, htl2, HS1.out, HR.out.2⟩⟩
          case measure => simp [intOf]; omega
        have hke : k = l.length := by omega
        subst hke
        have HX := Lib.hid (And.intro hm htk)
        have HS1 := Lib.hid hsk
        have ys := HYS.out _ _ hsk
        rw [List.take_of_length_le (by rw [List.length_drop]; omega)] at hm
        have hmr := maskL_ok s (l.drop (i + 1))
        rw [← hm] at hmr
        have HM := Lib.hid hm
        clear hm htk hsk
        go_upto_region 15 with fail
        go_wp2_with fail
        go_at_call 39
        refine (two_frz J0 (bk q 4 (boC tl2) :: M) _ s HS1.out).mono ?_
        clear ys HS1
        rintro e w2 ⟨_, J1, rfl, hle1, hsA, A1, c1, rfl, hb1⟩
        have HB1 := Lib.hid (And.intro hsA (And.intro hle1 hb1))
        clear hsA hle1 hb1
        go_wp2_with fail
        go_at_call 39
        refine (two_frz J1 (bk q 4 (boC tl2) :: M) _ m HB1.out.1).mono ?_
        rintro e w3 ⟨_, J2, rfl, hle2, hsB, A2, c2, rfl, hb2⟩
        obtain ⟨J3, hle3, hsC, hobj⟩ := (hsB.alloc 24 #[.slice A0 acc.length c0, .slice A1 (u16B (s % 65536)).length c1, .slice A2 (u16B (m % 65536)).length c2]).freezeBlk
        have hcs := Cells.ofBlk hobj
        have hbd : acc.length ≤ 128 := by
          have h1 := congrArg List.length HPC.out
          have h2 := piecesB_le _ l (Nat.le_refl _)
          rw [List.length_append] at h1
          omega
        have HJ := Lib.hid (joinR J3 (bk q 4 (boC tl2) :: M) _ (some ⟨w3.heap.size, 0, none⟩) 3 [acc, u16B (s % 65536), u16B (m % 65536)] [.slice A0 acc.length c0, .slice A1 (u16B (s % 65536)).length c1, .slice A2 (u16B (m % 65536)).length c2] hcs ⟨⟨A0, c0, rfl, ((HB0.out.mono HB1.out.2.1).mono hle2).mono hle3⟩, ⟨A1, c1, rfl, (HB1.out.2.2.mono hle2).mono hle3⟩, ⟨A2, c2, rfl, hb2.mono hle3⟩, trivial⟩ (by simp) (by simp only [List.flatten_cons, List.flatten_nil, List.length_append, List.length_nil, u16B_len]; omega) hsC)
        have HL := Lib.hid (((HLE.out.trans HB1.out.2.1).trans hle2).trans hle3)
        clear HB1 hle2 hle3 hsB hsC hobj hcs hb2 hbd
        go_wp2_with fail
        go_at_call 35
        refine HJ.out.mono ?_
        clear HJ
        rintro e w4 ⟨_, _, _, rfl, _, hs4, rfl, A3, c3, rfl, hc3, rfl⟩
        obtain ⟨fl, hfl⟩ : ∃ z : List UInt8, z = ([acc, u16B (s % 65536), u16B (m % 65536)] : List (List UInt8)).flatten := ⟨_, rfl⟩
        rw [← hfl] at hs4 hc3 ⊢
        obtain ⟨J4, hle4, hs5, hb5⟩ := hs4.freezeRow
        have HFL := Lib.hid (show fl ++ piecesB (l.drop c') = piecesB l by
          rw [← HPC.out, HPD.out, ← HM.out, hfl]
          have e1 : s % 65536 = s := by omega
          have e2 : m % 65536 = m := by omega
          rw [e1, e2]
          simp [pieceB])
        have HF := Lib.hid (And.intro (HL.out.trans hle4) (And.intro hs5 (show Byts J4 A3 fl from hb5)))
        clear hfl hs4 hle4 hs5 hb5 hc3
        go_wp2
        go_roundw
        case rel =>
          refine ⟨i + 1, A3, c3, fl, rfl, by omega, by go_num, Lib.hid ⟨J4, c', tl2, HF.out.1, HF.out.2.1, HF.out.2.2, HFL.out, ⟨by omega, hcn'⟩, htl2, fun k hk h => ?_⟩⟩
          rw [HX.out.2 k hk (by omega) (by omega), HNR.out k (by omega) (by omega), decide_eq_true (by omega)]
          rfl
        case measure => simp [intOf]; omega
    have hin : i = l.length := by omega
    have hcl : c = l.length := by omega
    subst hcl
    rw [List.drop_of_length_le (Nat.le_refl _), piecesB_nil, List.append_nil] at hpc
    subst hpc
    have HF := Lib.hid (show Frz I M (piecesB l) (.returned (.slice A0 (piecesB l).length c0)) wr from ⟨_, J0, rfl, hle0, hs0.drop, A0, c0, rfl, hb0⟩)
    clear hs0 hb0 htd
    go_wp2
    go_returns
    exact HF.out
end Go.Proofs.Ytddopbbmgpnjjaa
