/- rostrumref22.Check. -/
import Derived.Test.YtakgdmcekhafoaaDoorToZ
import Derived.Test.YtakgdmcekhafoaaDoorToU
import Derived.Test.YtakgdmcekhafoaaDoorDgS
namespace Go.Proofs.YtakgdmcekhafoaaDoor
open Go.RowKit
set_option linter.unusedSimpArgs false

theorem res12 (w : World) (r : Nat) (a b x y : Value) (n : Int) (tmps : Array Value) (ht : tmps[6]? = some (.pointer (some ⟨r, 0, none⟩))) (h7 : tmps[7]? = some (.int .i64 n)) (h : Blk w r 24 #[a, b, x, y]) :
    (results Tryd.f12 tmps).run Tryd.prog w = .ok (.tuple #[.agg #[a, b, x, y], .int .i64 n]) w := by
  obtain ⟨c0, c1, c2, c3, _⟩ := Blk.four h
  simp [results, Tryd.results12, go_sem, ht, h7, c0, c1, c2, c3]
theorem size24 : (Tryd.prog.info? 24).map (·.size) = some 4 := by kernel_rfl
theorem hex_mem (b : UInt8) : hexSet.contains b = true ↔ (48 ≤ b.toNat ∧ b.toNat ≤ 57) ∨ (97 ≤ b.toNat ∧ b.toNat ≤ 102) := by
  have h : hexSet.contains b = true ↔ b ∈ hexSet := List.contains_iff_mem
  rw [h]
  unfold hexSet
  simp only [List.mem_cons, List.not_mem_nil, or_false, ← UInt8.toNat_inj]
  constructor
  · intro h
    simp at h
    omega
  · intro h
    simp
    omega
theorem hexB_step {p : List UInt8} {k : Nat} (hk : k < p.length) : hexB (p.take (k + 1)) = (hexB (p.take k) && hexSet.contains p[k]) := by
  unfold hexB
  rw [List.take_succ_eq_append_getElem hk, List.all_append]
  simp
theorem hexB_bad {p : List UInt8} {k : Nat} (hk : k < p.length) (h : hexSet.contains p[k] = false) : hexB p = false := by
  unfold hexB
  rw [List.all_eq_false]
  exact ⟨p[k], List.getElem_mem hk, by rw [h]; decide⟩
theorem readV_ways (most : Nat) (l : List UInt8) : ∃ (u : Nat) (b : Bool), u ≤ most ∧ NuS.readV most l = .tuple #[.int .u64 u, .bool b] ∧ (b = false → NuS.readR most l = none) ∧ (b = true → NuS.readR most l = some u) := by
  cases h : NuS.readR most l with
  | none => exact ⟨0, false, Nat.zero_le _, NuS.readV_none h, fun _ => rfl, nofun⟩
  | some u => exact ⟨u, true, (NuS.readR_some.1 h).2, NuS.readV_some h, nofun, fun _ => rfl⟩
set_option maxRecDepth 8000 in
set_option maxHeartbeats 8000000 in
theorem checkRf (I : Img) (M : List Res) (w : World) (KA : Option Addr) (kc : Nat) (kb : List UInt8) (S : ByteArray) (now : Int) (hst : St I M w) (hk : Byts I KA kb) (hkl : kb.length ≤ 140737488351232) (hz : S.size ≤ maxLen) :
    Calls Tryd.prog 12 #[.slice KA kb.length kc, .string S, .int .i64 now] w (Ret I (fun v _ M' => M' = M ∧ v = .tuple #[.agg (clC (checkR kb (ls S) now).1), .int .i64 (checkR kb (ls S) now).2])) := by
  have hs := hst.alloc 24 zeroC
  obtain ⟨r, hr⟩ : ∃ r, r = w.heap.size := ⟨_, rfl⟩
  rw [← hr] at hs
  have HK := Lib.hid (And.intro hk hkl)
  unfold maxLen at hz
  clear hst hk hkl
  go_enter Tryd.func12, Tryd.ntmps12
  go_upto_region 1 with fail
  rw [← hr]
  clear hr
  change St I _ (w.alloc (.cells #[.string ⟨#[]⟩, .string ⟨#[]⟩, .int .i64 0, .int .i64 0] 24)) at hs
  generalize World.alloc _ _ = W at hs ⊢
  by_cases h300 : S.size ≤ 300
  rotate_left
  · have HE := Lib.hid (check_none (kb := kb) (now := now) (s := ls S) (by
      cases hp : partsR (ls S) with
      | none => rfl
      | some x =>
        obtain ⟨c, h⟩ := x
        have := parts_size hp
        rw [ls_len] at this
        omega))
    have h300' : (300 : Int) < S.size := by omega
    have J := I
    obtain ⟨J, hJ⟩ : ∃ J : Img, J = I := ⟨_, rfl⟩
    have HL := Lib.hid (show I.le J from hJ ▸ Img.le.refl I)
    rw [← hJ] at hs
    clear hJ h300
    obtain ⟨y0, y1, y2, y3, f0, f1, f2, f3, -⟩ := Blk.four (show Blk _ r 24 #[.string ⟨#[]⟩, .string ⟨#[]⟩, .int .i64 0, .int .i64 0] from hs.head); have HS0 := Lib.hid (show St J (bk r 24 zeroC :: M) _ from (((hs.set 0 (.string ⟨#[]⟩)).set 1 (.string ⟨#[]⟩)).set 2 (.int .i64 0)).set 3 (.int .i64 0)); clear hs
    go_wp2; refine bodyPost_ret (res12 _ _ _ _ _ _ _ _ rfl rfl HS0.out.head) rfl ?_; exact Ret.mk HL.out HS0.out.drop ⟨rfl, by rw [HE.out]; rfl⟩
  have h300' : (S.size : Int) ≤ 300 := by omega
  have HC := Lib.hid (pointsP I _ W S hs h300)
  clear hs
  go_wp2_with fail
  go_at_call 21
  refine HC.out.mono ?_
  rintro e w1 ⟨_, J, M1, rfl, hl, hs, hM1, P, g, c, rfl, hP, hP3, hcell⟩
  subst hM1
  clear HC
  have HL := Lib.hid hl
  by_cases h5 : P.length = 5
  rotate_left
  · have HE := Lib.hid (check_none (kb := kb) (now := now) (parts_len (s := ls S) (by
      rcases hP with h | ⟨_, h⟩
      · rw [← h]; exact h5
      · omega)))
    have h5' : ((P.length : Int) != 5) = true := by rw [bne_iff_ne]; omega
    clear hP hP3 hcell hl h5
    obtain ⟨y0, y1, y2, y3, f0, f1, f2, f3, -⟩ := Blk.four (show Blk _ r 24 #[.string ⟨#[]⟩, .string ⟨#[]⟩, .int .i64 0, .int .i64 0] from hs.head); have HS0 := Lib.hid (show St J (bk r 24 zeroC :: M) _ from (((hs.set 0 (.string ⟨#[]⟩)).set 1 (.string ⟨#[]⟩)).set 2 (.int .i64 0)).set 3 (.int .i64 0)); clear hs
    go_wp2; refine bodyPost_ret (res12 _ _ _ _ _ _ _ _ rfl rfl HS0.out.head) rfl ?_; exact Ret.mk HL.out HS0.out.drop ⟨rfl, by rw [HE.out]; rfl⟩
  obtain ⟨p0, p1, p2, p3, p4, rfl⟩ : ∃ p0 p1 p2 p3 p4, P = [p0, p1, p2, p3, p4] := by
    match P, h5 with
    | [a, b, c, d, e], _ => exact ⟨a, b, c, d, e, rfl⟩
  have HSP := Lib.hid (show splitC 46 (ls S) = [p0, p1, p2, p3, p4] from by
    rcases hP with h | ⟨h, _⟩
    · exact h.symm
    · cases h)
  have HP3 := Lib.hid hP3
  have k0 : J.cell? ⟨g, 0, none⟩ = some (.string (bsA p0)) := hcell 0 _ rfl
  have k1 : J.cell? ⟨g, 1, none⟩ = some (.string (bsA p1)) := hcell 1 _ rfl
  have k2 : J.cell? ⟨g, 2, none⟩ = some (.string (bsA p2)) := hcell 2 _ rfl
  have k3 : J.cell? ⟨g, 3, none⟩ = some (.string (bsA p3)) := hcell 3 _ rfl
  have k4 : J.cell? ⟨g, 4, none⟩ = some (.string (bsA p4)) := hcell 4 _ rfl
  obtain ⟨R, hR⟩ : ∃ D, D = bsA p0 := ⟨_, rfl⟩
  obtain ⟨U, hU⟩ : ∃ D, D = bsA p1 := ⟨_, rfl⟩
  obtain ⟨D2, hD2⟩ : ∃ D, D = bsA p2 := ⟨_, rfl⟩
  obtain ⟨D3, hD3⟩ : ∃ D, D = bsA p3 := ⟨_, rfl⟩
  obtain ⟨H, hH⟩ : ∃ D, D = bsA p4 := ⟨_, rfl⟩
  have hHs : H.size = p4.length := by rw [hH, bsA_size]
  have hRs : R.size ≤ 4000000 := by rw [hR, bsA_size]; have := hP3 p0 (by simp); omega
  have hUs : U.size ≤ 4000000 := by rw [hU, bsA_size]; have := hP3 p1 (by simp); omega
  rw [← hR] at k0
  rw [← hU] at k1
  rw [← hD2] at k2
  rw [← hD3] at k3
  rw [← hH] at k4
  have HRU := Lib.hid (And.intro hR hU)
  have HD2 := Lib.hid hD2
  have HD3 := Lib.hid hD3
  have HH := Lib.hid hH
  have HZ := Lib.hid (And.intro hRs hUs)
  have HKK := Lib.hid (And.intro k0 (And.intro k1 (And.intro k2 (And.intro k3 k4))))
  have y4 := hs.cell k4
  have HS := Lib.hid hs
  clear hcell k0 k1 k2 k3 k4 hR hU hD2 hD3 hH hRs hUs hl h5 hP hP3
  simp only [List.length_cons, List.length_nil]
  by_cases h40 : p4.length = 40
  rotate_left
  · have HE := Lib.hid (check_none (kb := kb) (now := now) (parts_40 HSP.out h40))
    have h40' : ((H.size : Int) != 40) = true := by rw [bne_iff_ne]; omega
    clear h40 hHs HS
    obtain ⟨y0, y1, y2, y3, f0, f1, f2, f3, -⟩ := Blk.four (show Blk _ r 24 #[.string ⟨#[]⟩, .string ⟨#[]⟩, .int .i64 0, .int .i64 0] from hs.head); have HS0 := Lib.hid (show St J (bk r 24 zeroC :: M) _ from (((hs.set 0 (.string ⟨#[]⟩)).set 1 (.string ⟨#[]⟩)).set 2 (.int .i64 0)).set 3 (.int .i64 0)); clear hs
    go_wp2; refine bodyPost_ret (res12 _ _ _ _ _ _ _ _ rfl rfl HS0.out.head) rfl ?_; exact Ret.mk HL.out HS0.out.drop ⟨rfl, by rw [HE.out]; rfl⟩
  have hH40 : H.size = 40 := by omega
  have HP4 := Lib.hid h40
  clear hHs hs h40 y4
  have HZZ := Lib.hid (show ∀ w, St J (bk r 24 zeroC :: M) w → w.cell? ⟨g, 4, none⟩ = some (.string H) from fun w h => h.cell HKK.out.2.2.2.2)
  have y4 := HZZ.out _ HS.out
  go_wp2_with fail
  go_loopw [9] (fun iv wr => ∃ k : Nat, k ≤ 40 ∧ iv = .int .i64 k ∧ Hid (hexB (p4.take k) = true ∧ St J (bk r 24 zeroC :: M) wr)) (fun iv _ => 40 - (intOf iv).toNat)
  case atStart => exact ⟨0, by omega, rfl, Lib.hid ⟨rfl, HS.out⟩⟩
  case round =>
    obtain ⟨k, hk, rfl, HR⟩ := hrel
    clear HS y4
    have y4 := HZZ.out _ HR.out.2
    by_cases hlt : k < 40
    · have hlt' : (k : Int) < 40 := by omega
      have hkH : k < H.size := by omega
      have hHk : H[k] = p4[k]'(by have := HP4.out; omega) := by
        have h1 : H = bsA p4 := HH.out
        subst h1
        rfl
      have hstep := hexB_step (p := p4) (k := k) (by have := HP4.out; omega)
      have hbad := hexB_bad (p := p4) (k := k) (by have := HP4.out; omega)
      rw [← hHk, HR.out.1, Bool.true_and] at hstep
      rw [← hHk] at hbad
      have hmem := hex_mem H[k]
      have HX := Lib.hid (And.intro hstep (And.intro hbad hmem))
      clear hstep hbad hmem hHk
      have hcs : (48 ≤ H[k].toNat ∧ H[k].toNat ≤ 57) ∨ (97 ≤ H[k].toNat ∧ H[k].toNat ≤ 102) ∨ H[k].toNat < 48 ∨ (57 < H[k].toNat ∧ H[k].toNat < 97) ∨ 102 < H[k].toNat := by omega
      have HR2 := Lib.hid HR.out.2
      clear HR
      rcases hcs with ⟨a1, a2⟩ | ⟨a1, a2⟩ | a1 | ⟨a1, a2⟩ | a1
      · have b1 : (48 : Int) ≤ H[k].toNat := by omega
        have b2 : (H[k].toNat : Int) ≤ 57 := by omega
        have HN := Lib.hid (show hexB (p4.take (k + 1)) = true from by rw [HX.out.1]; exact HX.out.2.2.2 (.inl ⟨a1, a2⟩))
        clear a1 a2
        go_wp2
        go_roundw
        case rel => exact ⟨k + 1, by omega, by go_num, Lib.hid ⟨HN.out, HR2.out⟩⟩
        case measure => simp [intOf]; omega
      · have b1 : (97 : Int) ≤ H[k].toNat := by omega
        have b2 : (H[k].toNat : Int) ≤ 102 := by omega
        have b3 : decide ((H[k].toNat : Int) ≤ 57) = false := decide_eq_false (by omega)
        have b4 : (48 : Int) ≤ H[k].toNat := by omega
        have HN := Lib.hid (show hexB (p4.take (k + 1)) = true from by rw [HX.out.1]; exact HX.out.2.2.2 (.inr ⟨a1, a2⟩))
        clear a1 a2
        go_wp2
        go_roundw
        case rel => exact ⟨k + 1, by omega, by go_num, Lib.hid ⟨HN.out, HR2.out⟩⟩
        case measure => simp [intOf]; omega
      · have b1 : (H[k].toNat : Int) < 48 := by omega
        have b2 : (H[k].toNat : Int) < 97 := by omega
        have hno : hexSet.contains H[k] = false := by cases hc : hexSet.contains H[k] with | false => rfl | true => exact absurd (HX.out.2.2.1 hc) (by omega)
        have HE := Lib.hid (check_none (kb := kb) (now := now) (parts_hex HSP.out (HX.out.2.1 hno)))
        have hs := HR2.out
        clear a1 hno HR2
        obtain ⟨y0, y1, y2, y3, f0, f1, f2, f3, -⟩ := Blk.four (show Blk _ r 24 #[.string ⟨#[]⟩, .string ⟨#[]⟩, .int .i64 0, .int .i64 0] from hs.head); have HS0 := Lib.hid (show St J (bk r 24 zeroC :: M) _ from (((hs.set 0 (.string ⟨#[]⟩)).set 1 (.string ⟨#[]⟩)).set 2 (.int .i64 0)).set 3 (.int .i64 0)); clear hs
        go_wp2; refine bodyPost_ret (res12 _ _ _ _ _ _ _ _ rfl rfl HS0.out.head) rfl ?_; exact Ret.mk HL.out HS0.out.drop ⟨rfl, by rw [HE.out]; rfl⟩
      · have b1 : (57 : Int) < H[k].toNat := by omega
        have b2 : (H[k].toNat : Int) < 97 := by omega
        have b3 : (48 : Int) ≤ H[k].toNat := by omega
        have hno : hexSet.contains H[k] = false := by cases hc : hexSet.contains H[k] with | false => rfl | true => exact absurd (HX.out.2.2.1 hc) (by omega)
        have HE := Lib.hid (check_none (kb := kb) (now := now) (parts_hex HSP.out (HX.out.2.1 hno)))
        have hs := HR2.out
        clear a1 a2 hno HR2
        obtain ⟨y0, y1, y2, y3, f0, f1, f2, f3, -⟩ := Blk.four (show Blk _ r 24 #[.string ⟨#[]⟩, .string ⟨#[]⟩, .int .i64 0, .int .i64 0] from hs.head); have HS0 := Lib.hid (show St J (bk r 24 zeroC :: M) _ from (((hs.set 0 (.string ⟨#[]⟩)).set 1 (.string ⟨#[]⟩)).set 2 (.int .i64 0)).set 3 (.int .i64 0)); clear hs
        go_wp2; all_goals first | (exfalso; have hd := ‹(!decide ((H[k].toNat : Int) ≤ 57)) = false›; simp at hd; omega) | (exfalso; have hd := ‹(!decide ((H[k].toNat : Int) ≤ 102)) = false›; simp at hd; omega) | (refine bodyPost_ret (res12 _ _ _ _ _ _ _ _ rfl rfl HS0.out.head) rfl ?_; exact Ret.mk HL.out HS0.out.drop ⟨rfl, by rw [HE.out]; rfl⟩)
      · have b1 : (102 : Int) < H[k].toNat := by omega
        have b2 : (97 : Int) ≤ H[k].toNat := by omega
        have b3 : (48 : Int) ≤ H[k].toNat := by omega
        have b4 : decide ((H[k].toNat : Int) ≤ 57) = false := decide_eq_false (by omega)
        have hno : hexSet.contains H[k] = false := by cases hc : hexSet.contains H[k] with | false => rfl | true => exact absurd (HX.out.2.2.1 hc) (by omega)
        have HE := Lib.hid (check_none (kb := kb) (now := now) (parts_hex HSP.out (HX.out.2.1 hno)))
        have hs := HR2.out
        clear a1 hno HR2
        obtain ⟨y0, y1, y2, y3, f0, f1, f2, f3, -⟩ := Blk.four (show Blk _ r 24 #[.string ⟨#[]⟩, .string ⟨#[]⟩, .int .i64 0, .int .i64 0] from hs.head); have HS0 := Lib.hid (show St J (bk r 24 zeroC :: M) _ from (((hs.set 0 (.string ⟨#[]⟩)).set 1 (.string ⟨#[]⟩)).set 2 (.int .i64 0)).set 3 (.int .i64 0)); clear hs
        go_wp2; all_goals first | (exfalso; have hd := ‹(!decide ((H[k].toNat : Int) ≤ 57)) = false›; simp at hd; omega) | (exfalso; have hd := ‹(!decide ((H[k].toNat : Int) ≤ 102)) = false›; simp at hd; omega) | (refine bodyPost_ret (res12 _ _ _ _ _ _ _ _ rfl rfl HS0.out.head) rfl ?_; exact Ret.mk HL.out HS0.out.drop ⟨rfl, by rw [HE.out]; rfl⟩)
    obtain rfl : k = 40 := by omega
    have HHX := Lib.hid (show hexB p4 = true from by have := HR.out.1; rwa [List.take_of_length_le (by rw [HP4.out]; omega)] at this)
    have hs := HR.out.2
    clear hlt hk HR y4
    obtain ⟨u, ub, hu, hue, hu0, hu1⟩ := readV_ways 4611686018427387904 p2
    obtain ⟨rr, rb, hrr, hre, hr0, hr1⟩ := readV_ways 7 p3
    have HU01 := Lib.hid (And.intro hu0 hu1)
    have HR01 := Lib.hid (And.intro hr0 hr1)
    have HC2 := Lib.hid (show ∀ w, Calls Tryd.prog 22 #[.string D2, .int .u64 4611686018427387904] w fun e w' => e = .returned (.tuple #[.int .u64 u, .bool ub]) ∧ w = w' from fun w => by
      have h := NuS.readP D2 4611686018427387904 w (by rw [HD2.out, bsA_size]; unfold maxLen; have := HP3.out p2 (by simp); omega) (by decide)
      rw [HD2.out] at h ⊢
      rw [← hue]
      exact h)
    have HC3 := Lib.hid (show ∀ w, Calls Tryd.prog 22 #[.string D3, .int .u64 7] w fun e w' => e = .returned (.tuple #[.int .u64 rr, .bool rb]) ∧ w = w' from fun w => by
      have h := NuS.readP D3 7 w (by rw [HD3.out, bsA_size]; unfold maxLen; have := HP3.out p3 (by simp); omega) (by decide)
      rw [HD3.out] at h ⊢
      rw [← hre]
      exact h)
    have y2 := hs.cell HKK.out.2.2.1
    have y3 := hs.cell HKK.out.2.2.2.1
    clear hue hre hu0 hu1 hr0 hr1
    go_wp2_with fail
    go_at_call 22
    refine (HC2.out _).mono ?_
    rintro e w2 ⟨rfl, rfl⟩
    go_wp2_with fail
    go_at_call 22
    refine (HC3.out _).mono ?_
    rintro e w2 ⟨rfl, rfl⟩
    go_upto_region 14 with fail
    have hw1 : IntKind.i64.wrap (u : Int) = (u : Int) := i64_wrap (by omega) (by omega)
    have hw2 : IntKind.i64.wrap (rr : Int) = (rr : Int) := i64_wrap (by omega) (by omega)
    obtain ⟨c, hc⟩ : ∃ c : Cl, c = ⟨R, U, (u : Int), (rr : Int)⟩ := ⟨_, rfl⟩
    have hcsz : ClSz c := by rw [hc]; unfold ClSz maxLen; exact ⟨by have := HZ.out.1; show R.size ≤ _; omega, by have := HZ.out.2; show U.size ≤ _; omega⟩
    have HCZ := Lib.hid hcsz
    have hcc : clC c = #[.string R, .string U, .int .i64 u, .int .i64 rr] := by rw [hc]; rfl
    have HCL := Lib.hid hcc
    have HAB := Lib.hid (show c = ⟨bsA p0, bsA p1, (u : Int), (rr : Int)⟩ from by rw [hc, HRU.out.1, HRU.out.2])
    have HCC := Lib.hid hc
    clear hc hcsz hcc HZ HC2 HC3 y2 y3
    replace hs := hs.drew
    refine wp_region_held_drew (S := (fun w' => w'.cell? ⟨g, 0, none⟩ = some (.string R) ∧ w'.cell? ⟨g, 1, none⟩ = some (.string U))) (by kernel_rfl) (by (try dsimp only); exact ⟨hs.cell HKK.out.1, hs.cell HKK.out.2.1⟩) (fun hHeld => ?_)
    generalize World.drew _ = W6 at hs hHeld ⊢
    refine wpAnyH_take (i := 0) (oi := _) (v := ?_) rfl (by kernel_rfl) (by kernel_rfl) (by kernel_rfl) (fun _ _ _ h => h) (Or.inl ⟨by rfl, ?_⟩) (by assumption) ?_
    rotate_left
    · (intro w hSw; (try dsimp only at hSw); go_simp; try with_reducible rfl)
    try simp only [Act.put, List.getElem_toArray, List.getElem_cons_zero, List.getElem_cons_succ, List.setIfInBounds_toArray, List.set_cons_zero, List.set_cons_succ]
    refine wpAnyH_take (i := 1) (oi := _) (v := ?_) rfl (by kernel_rfl) (by kernel_rfl) (by kernel_rfl) (fun _ _ _ h => h) (Or.inl ⟨by rfl, ?_⟩) (by assumption) ?_
    rotate_left
    · (intro w hSw; (try dsimp only at hSw); go_simp; try with_reducible rfl)
    try simp only [Act.put, List.getElem_toArray, List.getElem_cons_zero, List.getElem_cons_succ, List.setIfInBounds_toArray, List.set_cons_zero, List.set_cons_succ]
    refine wpAnyH_take (i := 2) (oi := _) (v := ?_) rfl (by kernel_rfl) (by kernel_rfl) (by kernel_rfl) (fun _ _ _ h => h) (Or.inl ⟨by rfl, ?_⟩) (by assumption) ?_
    rotate_left
    · (intro w hSw; (try dsimp only at hSw); go_simp; try with_reducible rfl)
    try simp only [Act.put, List.getElem_toArray, List.getElem_cons_zero, List.getElem_cons_succ, List.setIfInBounds_toArray, List.set_cons_zero, List.set_cons_succ]
    refine wpAnyH_take (i := 3) (oi := _) (v := ?_) rfl (by kernel_rfl) (by kernel_rfl) (by kernel_rfl) (fun _ _ _ h => h) (Or.inl ⟨by rfl, ?_⟩) (by assumption) ?_
    rotate_left
    · (intro w hSw; (try dsimp only at hSw); go_simp; try with_reducible rfl)
    try simp only [Act.put, List.getElem_toArray, List.getElem_cons_zero, List.getElem_cons_succ, List.setIfInBounds_toArray, List.set_cons_zero, List.set_cons_succ]
    refine wpAnyH_take (i := 4) (oi := _) (v := ?_) rfl (by kernel_rfl) (by kernel_rfl) (by kernel_rfl) (fun _ _ _ h => h) (Or.inl ⟨by rfl, ?_⟩) (by assumption) ?_
    rotate_left
    · (intro w hSw; (try dsimp only at hSw); go_simp; try with_reducible rfl)
    try simp only [Act.put, List.getElem_toArray, List.getElem_cons_zero, List.getElem_cons_succ, List.setIfInBounds_toArray, List.set_cons_zero, List.set_cons_succ]
    refine wpAnyH_take (i := 5) (oi := _) (v := ?_) rfl (by kernel_rfl) (by kernel_rfl) (by kernel_rfl) (fun _ _ _ h => h) (Or.inl ⟨by rfl, ?_⟩) (by assumption) ?_
    rotate_left
    · (intro w hSw; (try dsimp only at hSw); go_simp; try with_reducible rfl)
    try simp only [Act.put, List.getElem_toArray, List.getElem_cons_zero, List.getElem_cons_succ, List.setIfInBounds_toArray, List.set_cons_zero, List.set_cons_succ]
    refine wpAnyH_take (i := 6) (oi := _) (v := ?_) rfl (by kernel_rfl) (by kernel_rfl) (by kernel_rfl) (fun _ _ _ h => h) (Or.inl ⟨by rfl, ?_⟩) (by assumption) ?_
    rotate_left
    · (intro w hSw; (try dsimp only at hSw); go_simp; try with_reducible rfl)
    try simp only [Act.put, List.getElem_toArray, List.getElem_cons_zero, List.getElem_cons_succ, List.setIfInBounds_toArray, List.set_cons_zero, List.set_cons_succ]
    refine wpAnyH_take (i := 7) (oi := _) (v := ?_) rfl (by kernel_rfl) (by kernel_rfl) (by kernel_rfl) (fun _ _ _ h => h) (Or.inl ⟨by rfl, ?_⟩) (by assumption) ?_
    rotate_left
    · (intro w hSw; (try dsimp only at hSw); go_simp; try with_reducible rfl)
    try simp only [Act.put, List.getElem_toArray, List.getElem_cons_zero, List.getElem_cons_succ, List.setIfInBounds_toArray, List.set_cons_zero, List.set_cons_succ]
    refine wpAnyH_take (i := 8) (oi := _) (v := ?_) rfl (by kernel_rfl) (by kernel_rfl) (by kernel_rfl) (fun _ _ _ h => h) (Or.inl ⟨by rfl, ?_⟩) (by assumption) ?_
    rotate_left
    · (intro w hSw; (try dsimp only at hSw); go_simp; try with_reducible rfl)
    try simp only [Act.put, List.getElem_toArray, List.getElem_cons_zero, List.getElem_cons_succ, List.setIfInBounds_toArray, List.set_cons_zero, List.set_cons_succ]
    refine wpAnyH_take (i := 9) (oi := _) (v := ?_) rfl (by kernel_rfl) (by kernel_rfl) (by kernel_rfl) (fun _ _ _ h => h) (Or.inl ⟨by rfl, ?_⟩) (by assumption) ?_
    rotate_left
    · (intro w hSw; (try dsimp only at hSw); go_simp; try with_reducible rfl)
    try simp only [Act.put, List.getElem_toArray, List.getElem_cons_zero, List.getElem_cons_succ, List.setIfInBounds_toArray, List.set_cons_zero, List.set_cons_succ]
    refine wpAnyH_take (i := 10) (oi := _) (v := ?_) rfl (by kernel_rfl) (by kernel_rfl) (by kernel_rfl) (fun _ _ _ h => h) (Or.inl ⟨by rfl, ?_⟩) (by assumption) ?_
    rotate_left
    · (intro w hSw; (try dsimp only at hSw); go_simp; try with_reducible rfl)
    try simp only [Act.put, List.getElem_toArray, List.getElem_cons_zero, List.getElem_cons_succ, List.setIfInBounds_toArray, List.set_cons_zero, List.set_cons_succ]
    refine wpAnyH_ready (rs := [11]) (by kernel_rfl) (by simp) ?_
    refine (AllReadyH.cons (o := _) rfl (fun K hK => ?_) AllReadyH.nil)
    go_simp
    replace hs := hs.alloc 24 #[.string ⟨#[]⟩, .string ⟨#[]⟩, .int .i64 0, .int .i64 0]
    generalize World.alloc _ _ = W at hs ⊢
    generalize Array.size (World.heap _) = q at hs ⊢
    try clear hHeld
    refine hK.out _ _ (by (try dsimp only); exact ⟨hs.cell HKK.out.1, hs.cell HKK.out.2.1⟩) (fun hHeld => ?_)
    clear hK K
    try simp only [Act.put, List.getElem_toArray, List.getElem_cons_zero, List.getElem_cons_succ, List.setIfInBounds_toArray, List.set_cons_zero, List.set_cons_succ]
    refine wpAnyH_ready (rs := [12]) (by kernel_rfl) (by simp) ?_
    refine (AllReadyH.cons (o := _) rfl (fun K hK => ?_) AllReadyH.nil)
    refine step_store_row (by rfl) 24 _ _ (by rfl) q #[.string R, .string U, .int .i64 u, .int .i64 rr] (by rfl) (by rfl) 24 _ hs.head size24 rfl (by simp [Value.oneCell']) ?_
    replace hs := hs.setR #[.string R, .string U, .int .i64 u, .int .i64 rr]
    generalize World.setRow _ _ _ = W at hs ⊢
    try clear hHeld
    refine hK.out _ _ (by (try dsimp only); exact ⟨hs.cell HKK.out.1, hs.cell HKK.out.2.1⟩) (fun hHeld => ?_)
    clear hK K
    try simp only [Act.put, List.getElem_toArray, List.getElem_cons_zero, List.getElem_cons_succ, List.setIfInBounds_toArray, List.set_cons_zero, List.set_cons_succ]
    refine wpAnyH_done (by kernel_rfl) ?_ _
    clear hHeld
    have hform : (ub = false ∨ rb = false) → partsR (ls S) = none := fun h => by
      rcases h with h | h
      · exact parts_nu HSP.out (HU01.out.1 h)
      · exact parts_nr HSP.out (HR01.out.1 h)
    cases ub
    · have HE := Lib.hid (check_none (kb := kb) (now := now) (hform (.inl rfl)))
      replace hs := hs.drop
      clear hform
      obtain ⟨y0, y1, y2, y3, f0, f1, f2, f3, -⟩ := Blk.four (show Blk _ r 24 #[.string ⟨#[]⟩, .string ⟨#[]⟩, .int .i64 0, .int .i64 0] from hs.head); have HS0 := Lib.hid (show St J (bk r 24 zeroC :: M) _ from (((hs.set 0 (.string ⟨#[]⟩)).set 1 (.string ⟨#[]⟩)).set 2 (.int .i64 0)).set 3 (.int .i64 0)); clear hs
      go_wp2; refine bodyPost_ret (res12 _ _ _ _ _ _ _ _ rfl rfl HS0.out.head) rfl ?_; exact Ret.mk HL.out HS0.out.drop ⟨rfl, by rw [HE.out]; rfl⟩
    cases rb
    · have HE := Lib.hid (check_none (kb := kb) (now := now) (hform (.inr rfl)))
      replace hs := hs.drop
      clear hform
      obtain ⟨y0, y1, y2, y3, f0, f1, f2, f3, -⟩ := Blk.four (show Blk _ r 24 #[.string ⟨#[]⟩, .string ⟨#[]⟩, .int .i64 0, .int .i64 0] from hs.head); have HS0 := Lib.hid (show St J (bk r 24 zeroC :: M) _ from (((hs.set 0 (.string ⟨#[]⟩)).set 1 (.string ⟨#[]⟩)).set 2 (.int .i64 0)).set 3 (.int .i64 0)); clear hs
      go_wp2; refine bodyPost_ret (res12 _ _ _ _ _ _ _ _ rfl rfl HS0.out.head) rfl ?_; exact Ret.mk HL.out HS0.out.drop ⟨rfl, by rw [HE.out]; rfl⟩
    clear hform
    have HR2 := Lib.hid (HU01.out.2 rfl)
    have HR3 := Lib.hid (HR01.out.2 rfl)
    have hcg : Hid (Calls Tryd.prog 15 #[.agg #[.string R, .string U, .int .i64 u, .int .i64 rr]] _ _) := Lib.hid (by have hc := goodRf J _ _ c hs HCZ.out; rw [HCL.out] at hc; exact hc)
    obtain ⟨z0, z1, z2, z3, -⟩ := Blk.four (show Blk _ q 24 #[.string R, .string U, .int .i64 u, .int .i64 rr] from hs.head)
    clear hs HU01 HR01
    cases hg : goodC c
    · have HE := Lib.hid (check_none (kb := kb) (now := now) (parts_bad HSP.out HR2.out HR3.out (by rw [← HAB.out]; exact hg)))
      rw [hg] at hcg
      clear hg
      go_wp2_with fail
      go_at_call 15
      refine hcg.out.mono ?_
      rintro e w7 ⟨_, _, _, rfl, _, hs, rfl, rfl, rfl⟩
      clear z0 z1 z2 z3
      replace hs := hs.drop
      obtain ⟨y0, y1, y2, y3, f0, f1, f2, f3, -⟩ := Blk.four (show Blk _ r 24 #[.string ⟨#[]⟩, .string ⟨#[]⟩, .int .i64 0, .int .i64 0] from hs.head); have HS0 := Lib.hid (show St J (bk r 24 zeroC :: M) _ from (((hs.set 0 (.string ⟨#[]⟩)).set 1 (.string ⟨#[]⟩)).set 2 (.int .i64 0)).set 3 (.int .i64 0)); clear hs
      go_wp2; refine bodyPost_ret (res12 _ _ _ _ _ _ _ _ rfl rfl HS0.out.head) rfl ?_; exact Ret.mk HL.out HS0.out.drop ⟨rfl, by rw [HE.out]; rfl⟩
    have HPC := Lib.hid (show partsR (ls S) = some (c, p4) from by rw [HAB.out]; exact parts_some HSP.out HP4.out HHX.out HR2.out HR3.out (by rw [← HAB.out]; exact hg))
    rw [hg] at hcg
    have HG := Lib.hid hg
    clear hg
    go_wp2_with fail
    go_at_call 15
    refine hcg.out.mono ?_
    rintro e w7 ⟨_, _, _, rfl, _, hs, rfl, rfl, rfl⟩
    clear z0 z1 z2 z3
    obtain ⟨T, hT⟩ : ∃ T, T = bsA (textC c) := ⟨_, rfl⟩
    have hTs : T.size ≤ 100 := by rw [hT, bsA_size]; exact textC_len HG.out
    have HTT := Lib.hid hT
    obtain ⟨H2, hH2⟩ : ∃ h, h = bsA (hexT kb c) := ⟨_, rfl⟩
    have HSL := Lib.hid (show ∀ (N : List Res) (w' : World), St J N w' → Calls Tryd.prog 17 #[.slice KA kb.length kc, .string T] w' (Ret J (fun v _ M' => v = .string H2 ∧ M' = N)) from fun N w' h => by
      have h1 := sealRf J N w' KA kc kb (bsA (textC c)) h (HK.out.1.mono HL.out) HK.out.2 (by rw [← HTT.out]; omega)
      rw [HTT.out, hH2]
      exact h1)
    have HH2 := Lib.hid hH2
    have HS := Lib.hid hs
    clear hH2 hT hs
    go_upto_region 17 with fail
    have hs := HS.out.drew
    have hJ := Img.le.refl J
    clear HS
    refine wp_region_held_drew (S := (fun w' => (w'.cell? ⟨q, 0, none⟩ = some (.string R) ∧ w'.cell? ⟨q, 1, none⟩ = some (.string U) ∧ w'.cell? ⟨q, 2, none⟩ = some (.int .i64 u) ∧ w'.cell? ⟨q, 3, none⟩ = some (.int .i64 rr)) ∧ w'.cell? ⟨g, 4, none⟩ = some (.string H))) (by kernel_rfl) (by (try dsimp only); exact ⟨clK (c := ⟨R, U, (u : Int), (rr : Int)⟩) (show Blk _ q 24 _ from hs.head), hs.cell (hJ.cell HKK.out.2.2.2.2)⟩) (fun hHeld => ?_)
    generalize World.drew _ = W6 at hs hHeld ⊢
    refine wpAnyH_take (i := 0) (oi := _) (v := ?_) rfl (by kernel_rfl) (by kernel_rfl) (by kernel_rfl) (fun _ _ _ h => h) (Or.inl ⟨by rfl, ?_⟩) (by assumption) ?_
    rotate_left
    · (intro w hSw; (try dsimp only at hSw); go_simp; try with_reducible rfl)
    try simp only [Act.put, List.getElem_toArray, List.getElem_cons_zero, List.getElem_cons_succ, List.setIfInBounds_toArray, List.set_cons_zero, List.set_cons_succ]
    refine wpAnyH_take (i := 1) (oi := _) (v := ?_) rfl (by kernel_rfl) (by kernel_rfl) (by kernel_rfl) (fun _ _ _ h => h) (Or.inl ⟨by rfl, ?_⟩) (by assumption) ?_
    rotate_left
    · (intro w hSw; (try dsimp only at hSw); go_simp; try with_reducible rfl)
    try simp only [Act.put, List.getElem_toArray, List.getElem_cons_zero, List.getElem_cons_succ, List.setIfInBounds_toArray, List.set_cons_zero, List.set_cons_succ]
    refine wpAnyH_take (i := 4) (oi := _) (v := ?_) rfl (by kernel_rfl) (by kernel_rfl) (by kernel_rfl) (fun _ _ _ h => h) (Or.inl ⟨by rfl, ?_⟩) (by assumption) ?_
    rotate_left
    · (intro w hSw; (try dsimp only at hSw); go_simp; try with_reducible rfl)
    try simp only [Act.put, List.getElem_toArray, List.getElem_cons_zero, List.getElem_cons_succ, List.setIfInBounds_toArray, List.set_cons_zero, List.set_cons_succ]
    refine wpAnyH_take (i := 5) (oi := _) (v := ?_) rfl (by kernel_rfl) (by kernel_rfl) (by kernel_rfl) (fun _ _ _ h => h) (Or.inl ⟨by rfl, ?_⟩) (by assumption) ?_
    rotate_left
    · (intro w hSw; (try dsimp only at hSw); go_simp; try with_reducible rfl)
    try simp only [Act.put, List.getElem_toArray, List.getElem_cons_zero, List.getElem_cons_succ, List.setIfInBounds_toArray, List.set_cons_zero, List.set_cons_succ]
    refine wpAnyH_take (i := 6) (oi := _) (v := ?_) rfl (by kernel_rfl) (by kernel_rfl) (by kernel_rfl) (fun _ _ _ h => h) (Or.inl ⟨by rfl, ?_⟩) (by assumption) ?_
    rotate_left
    · (intro w hSw; (try dsimp only at hSw); go_simp; try with_reducible rfl)
    try simp only [Act.put, List.getElem_toArray, List.getElem_cons_zero, List.getElem_cons_succ, List.setIfInBounds_toArray, List.set_cons_zero, List.set_cons_succ]
    refine wpAnyH_ready (rs := [2]) (by kernel_rfl) (by simp) ?_
    refine (AllReadyH.cons (o := _) rfl (fun K hK => ?_) AllReadyH.nil)
    have hc := headRf J _ W6 c hs HG.out
    rw [← HTT.out, HCL.out] at hc
    go_simp
    refine hc.mono ?_
    clear hs hc
    rintro e w8 ⟨_, _, _, rfl, _, hs, rfl, rfl, rfl⟩
    try clear hHeld
    refine hK.out _ _ (by (try dsimp only); exact ⟨clK (c := ⟨R, U, (u : Int), (rr : Int)⟩) (show Blk _ q 24 _ from hs.head), hs.cell (hJ.cell HKK.out.2.2.2.2)⟩) (fun hHeld => ?_)
    clear hK K
    try simp only [Act.put, List.getElem_toArray, List.getElem_cons_zero, List.getElem_cons_succ, List.setIfInBounds_toArray, List.set_cons_zero, List.set_cons_succ]
    refine wpAnyH_ready (rs := [3]) (by kernel_rfl) (by simp) ?_
    refine (AllReadyH.cons (o := _) rfl (fun K hK => ?_) AllReadyH.nil)
    go_simp
    refine (HSL.out _ _ hs).mono ?_
    clear hs
    rintro e w9 ⟨_, J2, M9, rfl, hJ, hs, rfl, hM9⟩
    subst hM9
    try clear hHeld
    refine hK.out _ _ (by (try dsimp only); exact ⟨clK (c := ⟨R, U, (u : Int), (rr : Int)⟩) (show Blk _ q 24 _ from hs.head), hs.cell (hJ.cell HKK.out.2.2.2.2)⟩) (fun hHeld => ?_)
    clear hK K
    try simp only [Act.put, List.getElem_toArray, List.getElem_cons_zero, List.getElem_cons_succ, List.setIfInBounds_toArray, List.set_cons_zero, List.set_cons_succ]
    refine wpAnyH_take (i := 7) (oi := _) (v := ?_) rfl (by kernel_rfl) (by kernel_rfl) (by kernel_rfl) (fun _ _ _ h => h) (Or.inl ⟨by rfl, ?_⟩) (by assumption) ?_
    rotate_left
    · (intro w hSw; (try dsimp only at hSw); go_simp; try with_reducible rfl)
    try simp only [Act.put, List.getElem_toArray, List.getElem_cons_zero, List.getElem_cons_succ, List.setIfInBounds_toArray, List.set_cons_zero, List.set_cons_succ]
    refine wpAnyH_done (by kernel_rfl) ?_ _
    have HL2 := Lib.hid (HL.out.trans hJ)
    obtain ⟨z0, z1, z2, z3, -⟩ := Blk.four (show Blk _ q 24 #[.string R, .string U, .int .i64 u, .int .i64 rr] from hs.head)
    obtain ⟨y0, y1, y2, y3, f0, f1, f2, f3, -⟩ := Blk.four (show Blk _ r 24 #[.string ⟨#[]⟩, .string ⟨#[]⟩, .int .i64 0, .int .i64 0] from hs.at 1 rfl)
    have HS0 := Lib.hid (show St J2 (bk q 24 #[.string R, .string U, .int .i64 u, .int .i64 rr] :: bk r 24 zeroC :: M) _ from (((hs.set1 0 (.string ⟨#[]⟩)).set1 1 (.string ⟨#[]⟩)).set1 2 (.int .i64 0)).set1 3 (.int .i64 0))
    have HS1 := Lib.hid (show St J2 (bk q 24 #[.string R, .string U, .int .i64 u, .int .i64 rr] :: bk r 24 #[.string R, .string U, .int .i64 u, .int .i64 rr] :: M) _ from (((hs.set1 0 (.string R)).set1 1 (.string U)).set1 2 (.int .i64 u)).set1 3 (.int .i64 rr))
    clear hs hHeld hJ HSL
    by_cases hsl : hexT kb c = p4
    rotate_left
    · have HE := Lib.hid (check_auth (now := now) HPC.out hsl)
      rw [show (!(H2.toList == H.toList)) = true from by rw [toList_no (by rw [HH2.out, HH.out]; exact hsl)]; rfl]
      clear hsl HS1
      go_wp2
      refine bodyPost_ret (res12 _ _ _ _ _ _ _ _ rfl rfl (HS0.out.at 1 rfl)) rfl ?_
      exact Ret.mk HL2.out HS0.out.drop.drop ⟨rfl, by rw [HE.out]; rfl⟩
    obtain rfl : H2 = H := by rw [HH2.out, HH.out, hsl]
    have HSE := Lib.hid hsl
    rw [show (!(H2.toList == H2.toList)) = false from by simp]
    clear hsl
    by_cases hn : (u : Int) < now
    · have HE := Lib.hid (check_old (now := now) HPC.out HSE.out (by rw [HCC.out]; exact hn))
      clear HS1
      go_wp2
      refine bodyPost_ret (res12 _ _ _ _ _ _ _ _ rfl rfl (HS0.out.at 1 rfl)) rfl ?_
      exact Ret.mk HL2.out HS0.out.drop.drop ⟨rfl, by rw [HE.out]; rfl⟩
    · have hn' : now ≤ (u : Int) := by omega
      have HE := Lib.hid (check_ok (now := now) HPC.out HSE.out (by rw [HCC.out]; exact hn))
      clear HS0 hn
      go_wp2
      refine bodyPost_ret (res12 _ _ _ _ _ _ _ _ rfl rfl (HS1.out.at 1 rfl)) rfl ?_
      exact Ret.mk HL2.out HS1.out.drop.drop ⟨rfl, by rw [HE.out, ← HCL.out]⟩
end Go.Proofs.YtakgdmcekhafoaaDoor
