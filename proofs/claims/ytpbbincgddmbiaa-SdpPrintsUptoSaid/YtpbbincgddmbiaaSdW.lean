/- rostrumref06.Print; SdpPrints. -/
import Derived.Test.YtpbbincgddmbiaaSdU
import Derived.Test.YtpbbincgddmbiaaSdV
import Derived.Test.YtpbbincgddmbiaaSdE
namespace Go.Proofs.Ytpbbincgddmbiaa
open Go.RowKit
set_option linter.unusedSimpArgs false

def cnt : List Pa → Nat
  | [] => 0
  | p :: r => p.attrs.length + cnt r
theorem cnt_snoc (l : List Pa) (p : Pa) : cnt (l ++ [p]) = cnt l + p.attrs.length := by
  induction l with
  | nil => simp [cnt]
  | cons a r ih => simp [cnt, ih]; omega
theorem cnt_take (l : List Pa) (k : Nat) : cnt (l.take k) ≤ cnt l := by
  have h : ∀ (a b : List Pa), cnt (a ++ b) = cnt a + cnt b := fun a b => by
    induction a with
    | nil => simp [cnt]
    | cons x r ih => simp [cnt, ih]; omega
  have := h (l.take k) (l.drop k)
  rw [List.take_append_drop] at this
  omega
theorem cnt_good : ∀ (l : List Pa), l.all goodPa = true → cnt l ≤ l.length * 64
  | [], _ => Nat.zero_le _
  | p :: r, h => by
    have h2 : goodPa p = true ∧ r.all goodPa = true := by simpa using h
    have h3 := (goodPa_parts h2.1).2.2.1
    have h4 := cnt_good r h2.2
    simp only [cnt, List.length_cons]
    omega
theorem mem_cnt {p : Pa} : ∀ {l : List Pa}, p ∈ l → p.attrs.length ≤ cnt l
  | a :: r, h => by
    rcases List.mem_cons.1 h with rfl | h
    · simp only [cnt]; omega
    · have := mem_cnt h
      simp only [cnt]; omega
theorem printR_ok {x : Ss} (h : goodS x = true) (h8 : ¬ 8192 < (printS x).length) : printR x = (bsA (printS x), 0) := by
  unfold printR; rw [if_pos ⟨h, h8⟩]
theorem printR_no {x : Ss} (h : ¬ (goodS x = true ∧ ¬ 8192 < (printS x).length)) : printR x = (⟨#[]⟩, 1) := by
  unfold printR; rw [if_neg h]
set_option maxRecDepth 8000 in
set_option maxHeartbeats 8000000 in
theorem printR13 (I : Img) (M : List Res) (w : World) (vA vP : Value) (x : Ss) (pv : List (Pa × Value)) (hst : St I M w) (ha : Ses I vA vP pv x) (hlen : (printS x).length ≤ 100000000)
    (hn : x.attrs.length + x.parts.length + cnt x.parts ≤ 100000000) :
    Calls Try.prog 13 #[.agg (head5 x vA vP)] w (Ret I (fun v _ M' => v = .tuple #[.string (printR x).1, .int .i64 (printR x).2] ∧ M' = M)) := by
  have HA := Lib.hid ha
  have hpl : pv.length = x.parts.length := by rw [← ha.same]; simp [partsOf]
  have HPE := Lib.hid (show ∀ p ∈ pv, p.1.attrs.length ≤ 100000000 from fun p hp => by
    have := mem_cnt (show p.1 ∈ x.parts by rw [← ha.same]; exact List.mem_map_of_mem hp)
    omega)
  have hal : x.attrs.length ≤ 100000000 := by omega
  have hpm : pv.length ≤ 100000000 := by omega
  have HN := Lib.hid (show x.attrs.length + pv.length + cnt (partsOf pv) ≤ 100000000 by rw [ha.same, hpl]; exact hn)
  have HN2 := Lib.hid (show x.attrs.length + pv.length + cnt (partsOf pv) = x.attrs.length + x.parts.length + cnt x.parts by rw [ha.same, hpl])
  have HLEN := Lib.hid hlen
  obtain ⟨aA, cA, rfl, _⟩ := ha.attrs
  obtain ⟨aP, cP, rfl, _⟩ := ha.parts
  have hs := hst.alloc 26 (head5 x (.slice aA x.attrs.length cA) (.slice aP pv.length cP))
  obtain ⟨b0, hb0⟩ : ∃ b, b = w.heap.size := ⟨_, rfl⟩
  rw [← hb0] at hs
  have HPL := Lib.hid hpl
  clear hst ha hpl hn hlen
  go_enter Try.func13, Try.ntmps13
  go_upto_region 1 with fail
  rw [← hb0]
  clear hb0
  generalize World.alloc _ _ = W0 at hs ⊢
  obtain ⟨hc, hf, hl⟩ := Blk.all hs.head
  have HS := Lib.hid hs
  clear hs
  go_upto_region 3 with fail
  clear hc hf hl
  go_loopw [4, 20] (fun nv iv wr => ∃ (k n : Nat), k ≤ pv.length ∧ iv = .int .i64 k ∧ nv = .int .i64 n ∧ n ≤ 100000000 ∧ Hid (n = x.attrs.length + pv.length + cnt ((partsOf pv).take k)) ∧ Hid (St I (bk b0 26 (head5 x (.slice aA x.attrs.length cA) (.slice aP pv.length cP)) :: M) wr)) (fun _ iv _ => pv.length - (intOf iv).toNat)
  case atStart => exact ⟨0, x.attrs.length + pv.length, by omega, rfl, by go_num, by have := HN.out; omega, Lib.hid (by simp [cnt]), HS⟩
  case round =>
    obtain ⟨k, n, hk, rfl, rfl, hn, HK, HSr⟩ := hrel
    clear HS
    by_cases hlt : k < pv.length
    · obtain ⟨g, o, c', e1, hcp⟩ := HA.out.parts.at (by omega)
      obtain ⟨e1, -, e3⟩ := Value.slice.inj e1
      subst e1 e3
      obtain ⟨y0, y1, y2⟩ := hcp _ _ HSr.out k hlt
      obtain ⟨hc, hf, hl⟩ := Blk.all HSr.out.head
      have hlp : k < (partsOf pv).length := by simpa [partsOf] using hlt
      have HTK := Lib.hid (show x.attrs.length + pv.length + cnt ((partsOf pv).take (k + 1)) = n + pv[k].1.attrs.length by
        rw [List.take_succ_eq_append_getElem hlp, cnt_snoc, HK.out]
        simp [partsOf]; omega)
      have hb1 : n + pv[k].1.attrs.length ≤ 100000000 := by
        have h1 := cnt_take (partsOf pv) (k + 1)
        have h2 := HN.out
        rw [← HTK.out]
        omega
      have HP1 := Lib.hid (HA.out.each pv[k] (List.getElem_mem hlt))
      obtain ⟨a, hae⟩ : ∃ a, a = pv[k] := ⟨_, rfl⟩
      rw [← hae] at y0 y1 y2 HTK HP1 hb1
      clear hcp hae hlp
      obtain ⟨⟨al, ac, aa⟩, av⟩ := a
      dsimp only at y0 y1 y2 HTK HP1 hb1
      obtain ⟨aV, cV, rfl, _⟩ := HP1.out
      go_wp2
      go_roundw
      case rel => exact ⟨k + 1, n + aa.length, by omega, by go_num, by go_num, hb1, Lib.hid HTK.out.symm, HSr⟩
      case measure => simp [intOf]; omega
    have hke : k = pv.length := by omega
    have HTN := Lib.hid (show n = x.attrs.length + x.parts.length + cnt x.parts by rw [HK.out, hke, List.take_of_length_le (by simp [partsOf]), HN2.out])
    have hgt : (pv.length : Int) ≤ k := by omega
    clear hlt hke HK
    by_cases h2 : n ≤ 2000
    rotate_left
    · have HR := Lib.hid (show printR x = (⟨#[]⟩, 1) from printR_no fun h => by
        obtain ⟨_, _, _, h4, _, h6, h7⟩ := goodS_parts h.1
        have h8 := cnt_good _ h7
        have h9 := HTN.out
        omega)
      have h2' : (2000 : Int) < n := by omega
      clear h2
      go_wp2
      go_returns
      exact Ret.mk (.refl I) HSr.out.drop ⟨by rw [HR.out]; rfl, rfl⟩
    have h2' : (n : Int) ≤ 2000 := by omega
    have hal2 : x.attrs.length ≤ 2000 := by have := HTN.out; omega
    have hpv2 : pv.length ≤ 2000 := by have := HTN.out; have := HPL.out; omega
    have HPE2 := Lib.hid (show ∀ p ∈ pv, p.1.attrs.length ≤ 2000 from fun p hp => by
      have := mem_cnt (show p.1 ∈ x.parts by rw [← HA.out.same]; exact List.mem_map_of_mem hp)
      have := HTN.out
      omega)
    clear h2
    obtain ⟨hc, hf, hl⟩ := Blk.all HSr.out.head
    have HC := Lib.hid (printRR I _ wr (.slice aA x.attrs.length cA) (.slice aP pv.length cP) x pv HSr.out HA.out HLEN.out (by omega) (by omega) (fun p hp => by have := HPE.out p hp; omega))
    go_wp2_with fail
    go_at_call 26
    refine HC.out.mono ?_
    rintro e w2 ⟨_, _, _, rfl, _, hs2, rfl, rfl, rfl⟩
    have HS2 := Lib.hid hs2
    clear hc hf hl HC hs2 HSr
    have hz1 : (bsA (printS x)).size ≤ 100000000 := by rw [bsA_size]; exact HLEN.out
    have hpz : (bsA (printS x)).size ≤ maxLen := by unfold maxLen; omega
    have HC := Lib.hid (parseR I _ w2 (bsA (printS x)) HS2.out hpz)
    rw [bsA_list] at HC
    clear hz1 hpz
    rcases parse_ways (printS x) with ⟨y, hy⟩ | ⟨n', g', hy, hng⟩
    rotate_left
    · have HR := Lib.hid (show printR x = (⟨#[]⟩, 1) from printR_no fun h => by
        rw [print_parse h.1 h.2] at hy
        injection hy with _ hy
        injection hy with _ hy
        omega)
      rw [hy] at HC
      clear hy
      go_upto_region 11 with (go_at_call 9; refine HC.out.mono ?_; clear HC; rintro e w5 ⟨_, _, _, rfl, _, hs5, rfl, vB, vQ, qv, hqv, rfl, rfl⟩; obtain ⟨J2, hle2, hs6, hses2⟩ := freezeSes hs5 hqv; obtain ⟨aB, cB, rfl, _⟩ := hses2.attrs; obtain ⟨aQ, cQ, rfl, _⟩ := hses2.parts; have HS6 := Lib.hid (hs6.alloc 26 #[.string noSs.origin, .string noSs.name, .string noSs.time, .slice aB noSs.attrs.length cB, .slice aQ qv.length cQ]); have HL2 := Lib.hid hle2; clear hs5 hs6 hle2 hses2 hqv HS2; dsimp only [head5])
      rcases hng with ⟨rfl, hn'⟩ | rfl
      · go_wp2
        go_returns
        exact Ret.mk HL2.out HS6.out.drop.drop ⟨by rw [HR.out]; rfl, rfl⟩
      · go_wp2
        go_returns
        exact Ret.mk HL2.out HS6.out.drop.drop ⟨by rw [HR.out]; rfl, rfl⟩
    rw [hy] at HC
    obtain ⟨hgy, hpy, hl8⟩ := parse_print hy
    obtain ⟨_, _, _, q4, _, q6, q7⟩ := goodS_parts hgy
    have HYE := Lib.hid (show ∀ p ∈ y.parts, p.attrs.length ≤ 64 from fun p hp => (goodPa_parts (List.all_eq_true.1 q7 p hp)).2.2.1)
    have HRY := Lib.hid (show x = y → printR x = (bsA (printS x), 0) from fun e => by subst e; exact printR_ok hgy hl8)
    have HRN := Lib.hid (show x ≠ y → printR x = (⟨#[]⟩, 1) from fun e => printR_no fun h => by
      rw [print_parse h.1 h.2] at hy
      injection hy with hy
      exact e hy)
    clear hy hpy hl8 hgy q7
    go_upto_region 11 with (go_at_call 9; refine HC.out.mono ?_; clear HC; rintro e w5 ⟨_, _, _, rfl, _, hs5, rfl, vB, vQ, qv, hqv, rfl, rfl⟩; obtain ⟨J2, hle2, hs6, hses2⟩ := freezeSes hs5 hqv; obtain ⟨aB, cB, rfl, _⟩ := hses2.attrs; obtain ⟨aQ, cQ, rfl, _⟩ := hses2.parts; have HS6 := Lib.hid (hs6.alloc 26 #[.string y.origin, .string y.name, .string y.time, .slice aB y.attrs.length cB, .slice aQ qv.length cQ]); have HL2 := Lib.hid hle2; have SES2 := Lib.hid hses2; clear hs5 hs6 hle2 hses2 hqv HS2; dsimp only [head5])
    obtain ⟨p2, hp2⟩ : ∃ p, p = w5.heap.size := ⟨_, rfl⟩
    rw [← hp2] at HS6 ⊢
    clear hp2
    generalize World.alloc _ _ = W6 at HS6 ⊢
    obtain ⟨hc, hf, hl⟩ := Blk.all HS6.out.head
    obtain ⟨hc2, hf2, hl2⟩ := Blk.all (show Blk W6 b0 26 _ from HS6.out.at 1 rfl)
    have hqv2 : qv.length ≤ 8 := by have h := SES2.out.same; have h3 : qv.length = y.parts.length := (by rw [← h]; simp [partsOf])
                                    omega
    have HC := Lib.hid (sameR J2 _ W6 (.slice aA x.attrs.length cA) (.slice aP pv.length cP) (.slice aB y.attrs.length cB) (.slice aQ qv.length cQ) x y pv qv HS6.out (HA.out.mono HL2.out) SES2.out (by omega) (by omega) (by omega) (by omega) (fun p hp => by have := HPE2.out p hp; omega) (fun p hp => by have := HYE.out p.1 (by rw [← SES2.out.same]; exact List.mem_map_of_mem hp); omega))
    go_wp2_with fail
    go_at_call 11
    refine HC.out.mono ?_
    rintro e w7 ⟨_, _, _, rfl, _, hs7, rfl, ⟨b, rfl, hb⟩, rfl⟩
    have HS7 := Lib.hid hs7
    have HB := Lib.hid hb
    clear hs7 hb hc hf hl hc2 hf2 hl2 HC
    cases b
    · have HR := Lib.hid (HRN.out (fun e => by have := HB.out.2 e; cases this))
      go_wp2
      go_returns
      exact Ret.mk HL2.out HS7.out.drop.drop ⟨by rw [HR.out]; rfl, rfl⟩
    · have HR := Lib.hid (HRY.out (HB.out.1 rfl))
      go_wp2
      go_returns
      exact Ret.mk HL2.out HS7.out.drop.drop ⟨by rw [HR.out]; rfl, rfl⟩
set_option maxRecDepth 8000 in
set_option maxHeartbeats 8000000 in
theorem law6 (I : Img) (M : List Res) (w : World) (m : Int) (x : Ss) (vA vP : Value) (pv : List (Pa × Value)) (hst : St I M w) (hm : I.cell? ⟨0, 0, none⟩ = some (.int .i64 m)) (ha : Ses I vA vP pv x) (hsz : Sized x)
    (hal : x.attrs.length * 32 ≤ 140737488351232) (hpl : pv.length * 56 ≤ 140737488351232) (hpe : ∀ p ∈ pv, p.1.attrs.length * 32 ≤ 140737488351232) (hlen : (printS x).length ≤ 100000000)
    (hn : x.attrs.length + x.parts.length + cnt x.parts ≤ 100000000) :
    Calls Try.prog 6 #[.agg (head5 x vA vP)] w (Yes I M) := by
  have HA := Lib.hid ha
  have HZ := Lib.hid hsz
  have HM := Lib.hid hm
  have HPE := Lib.hid hpe
  have HLEN := Lib.hid hlen
  have HN := Lib.hid hn
  obtain ⟨aA, cA, rfl, _⟩ := ha.attrs
  obtain ⟨aP, cP, rfl, _⟩ := ha.parts
  obtain ⟨b0, hb0⟩ : ∃ b, b = w.heap.size := ⟨_, rfl⟩
  have hs := hst.alloc 26 (head5 x (.slice aA x.attrs.length cA) (.slice aP pv.length cP))
  rw [← hb0] at hs
  have HS := Lib.hid hs
  clear hst ha hsz hm hs hpe hlen hn
  go_enter Try.func6, Try.ntmps6
  go_upto_region 1 with fail
  rw [← hb0]
  clear hb0
  generalize World.alloc _ _ = W0 at HS ⊢
  have HW := Lib.hid (awakeP I _ W0 m HS.out HM.out)
  go_wp2_with fail
  go_at_call 8
  refine HW.out.mono ?_
  rintro e w2 ⟨_, _, M2, rfl, hle, hs2, rfl, hM⟩
  rw [hM] at hs2
  clear HS HW
  have HS := Lib.hid (hs2.less hle)
  clear hs2 hle hM M2
  obtain ⟨hc, hf, hl⟩ := Blk.all HS.out.head
  have HC := Lib.hid (printR13 I _ w2 (.slice aA x.attrs.length cA) (.slice aP pv.length cP) x pv HS.out HA.out HLEN.out HN.out)
  go_wp2_with fail
  go_at_call 13
  refine HC.out.mono ?_
  rintro e w3 ⟨_, _, _, rfl, hle, hs3, rfl, rfl⟩
  clear HC HS hc hf hl
  have HS := Lib.hid (hs3.less hle)
  clear hs3 hle
  obtain ⟨hc, hf, hl⟩ := Blk.all HS.out.head
  have HT := Lib.hid (theirsR I _ w3 (.slice aA x.attrs.length cA) (.slice aP pv.length cP) x pv HS.out HA.out hal hpl HPE.out)
  go_wp2_with fail
  go_at_call 15
  refine HT.out.mono ?_
  rintro e w4 ⟨_, _, _, rfl, _, hs4, rfl, vC, vR, rv, hrv, rfl, rfl⟩
  obtain ⟨J1, hle1, hs5, hses1⟩ := freezeSes hs4 hrv
  have HP := Lib.hid (printP J1 _ w4 vC vR x rv hs5 hses1 HZ.out)
  have HL1 := Lib.hid hle1
  clear hs4 hs5 hle1 hses1 hrv HT HS hc hf hl
  go_wp2_with fail
  go_at_call 14
  refine HP.out.mono ?_
  rintro e w5 ⟨_, _, _, rfl, _, hs6, rfl, rfl, rfl⟩
  have HS := Lib.hid hs6
  clear hs6 HP
  go_wp2
  go_returns
  exact Ret.mk HL1.out HS.out.drop ⟨rfl, rfl⟩
end Go.Proofs.Ytpbbincgddmbiaa
