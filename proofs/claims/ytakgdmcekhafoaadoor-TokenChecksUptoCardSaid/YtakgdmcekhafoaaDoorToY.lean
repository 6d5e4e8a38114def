/- token.Check, at any text. -/
import Derived.Test.YtakgdmcekhafoaaDoorToX
import Derived.Test.YtakgdmcekhafoaaDoorToM
import Derived.Deep.RegionHeld
namespace Go.Proofs.YtakgdmcekhafoaaDoor
open Go.RowKit
set_option linter.unusedSimpArgs false

def ErrV (I : Img) (g : Nat) : Prop := ∃ ev, I.cell? ⟨g, 0, none⟩ = some ev ∧ (ev = .nilIface ∨ ∃ te pe, ev = .iface te pe)
theorem ErrV.mono {I J : Img} {g : Nat} (h : ErrV I g) (hl : I.le J) : ErrV J g := by
  obtain ⟨ev, h1, h2⟩ := h
  exact ⟨ev, hl.cell h1, h2⟩
theorem parse64 (I : Img) (M : List Res) (w : World) (s : ByteArray) (hst : St I M w) (h1 : ErrV I 0) (h2 : ErrV I 1) (hs : s.size ≤ 281474976710656) :
    ∃ v : Int, (∀ u : Int, Lib.parseIntB 64 (ls s) = .ok u → v = u) ∧ Calls Tryd.prog 25 #[.string s, .int .i64 10, .int .i64 64] w fun e w' => ∃ x : Value, e = .returned (.tuple #[.int .i64 v, x]) ∧ St I M w' := by
  obtain ⟨e1, c1, k1⟩ := h1
  obtain ⟨e2, c2, k2⟩ := h2
  cases e : Lib.parseIntB 64 (ls s) with
  | ok v =>
    refine ⟨v, fun u hu => by injection hu, (Tryd.strconv_ParseInt_10_at64_ok s (by omega) v e w).mono ?_⟩
    rintro e w' ⟨rfl, rfl | ⟨t, rfl⟩⟩
    · exact ⟨_, rfl, hst⟩
    · exact ⟨_, rfl, hst.below (Lib.bytesWorld_below w 5 t)⟩
  | range =>
    refine ⟨Lib.intSat 64 s.data.toList, nofun, (Any.strconv_ParseInt_10_at64_range Tryd.laysC174 s hs e e2 w (hst.cell c2) k2).mono ?_⟩
    rintro e w' ⟨N, rfl, -, -, hb⟩
    exact ⟨_, rfl, hst.below hb⟩
  | _ =>
    refine ⟨0, nofun, (Any.strconv_ParseInt_10_at64_syntax Tryd.laysC174 s hs e e1 w (hst.cell c1) k1).mono ?_⟩
    rintro e w' ⟨N, rfl, -, -, hb⟩
    exact ⟨_, rfl, hst.below hb⟩
theorem atoiG (I : Img) (M : List Res) (w : World) (s : ByteArray) (hst : St I M w) (h1 : ErrV I 0) (h2 : ErrV I 1) (hs : s.size ≤ 281474976710656) :
    ∃ v : Int, (∀ u : Int, Lib.atoiAll (ls s) = .ok u → v = u) ∧ Calls Tryd.prog 26 #[.string s] w fun e w' => ∃ x : Value, e = .returned (.tuple #[.int .i64 v, x]) ∧ St I M w' := by
  obtain ⟨e1, c1, k1⟩ := h1
  obtain ⟨e2, c2, k2⟩ := h2
  cases e : Lib.atoiAll (ls s) with
  | ok v =>
    refine ⟨v, fun u hu => by injection hu, (Tryd.strconv_Atoi_ok s (by omega) v e w).mono ?_⟩
    rintro e w' ⟨rfl, rfl | ⟨t, rfl⟩⟩
    · exact ⟨_, rfl, hst⟩
    · exact ⟨_, rfl, hst.below (Lib.bytesWorld_below w 5 t)⟩
  | range =>
    refine ⟨Lib.atoiSat s.data.toList, nofun, (Any.strconv_Atoi_range Tryd.laysC172 s hs e e2 w (hst.cell c2) k2).mono ?_⟩
    rintro e w' ⟨N, rfl, -, -, hb⟩
    exact ⟨_, rfl, hst.below hb⟩
  | _ =>
    refine ⟨0, nofun, (Any.strconv_Atoi_syntax Tryd.laysC172 s hs e e1 w (hst.cell c1) k1).mono ?_⟩
    rintro e w' ⟨N, rfl, -, -, hb⟩
    exact ⟨_, rfl, hst.below hb⟩
theorem toList_no {a b : ByteArray} (h : ls a ≠ ls b) : (a.toList == b.toList) = false := by
  rw [beq_eq_false_iff_ne, ByteArray.toList_eq, ByteArray.toList_eq]
  exact fun e => h e
set_option maxRecDepth 100000 in
theorem splitG (I : Img) (M : List Res) (s : ByteArray) (mx : Int) (w : World) (hst : St I M w) (hs : s.size ≤ 4000000) (hm : I.cell? ⟨3, 0, none⟩ = some (.int .i64 mx)) (l : List (List UInt8)) (hl : splitC 46 (ls s) = l) :
    Calls Tryd.prog 23 #[.string s, .string ⟨#[46]⟩] w (Ret I (fun v J M' => M' = M ∧ ∃ g, v = .slice (some ⟨g, 0, none⟩) l.length l.length ∧ ∀ (j : Nat) x, l[j]? = some x → J.cell? ⟨g, j, none⟩ = some (.string (bsA x)))) := by
  have hc := Tryd.strings_Split s ⟨#[46]⟩ mx w (by omega) (hst.cell hm) (by decide)
  have h1 := Lib.splitB_all ⟨#[46]⟩ (by decide) 0 _ s rfl
  rw [split_bytes, hl] at h1 hc
  rw [List.length_map] at h1
  rw [← h1] at hc
  refine hc.mono ?_
  rintro e w' ⟨rfl, rfl⟩
  obtain ⟨J, h2, h3, h4⟩ := hst.allocF 9 ((l.map bsA).map Value.string).toArray
  refine Ret.mk h2 h3 ⟨rfl, w.heap.size, rfl, fun j x hj => ?_⟩
  simp only [Img.cell?, h4]
  simp [hj]
set_option maxRecDepth 100000 in
theorem trimG (p : List UInt8) (w : World) (hp : p.length ≤ 4000000) : Calls Tryd.prog 24 #[.string (bsA p), .string ⟨#[48, 49, 50, 51, 52, 53, 54, 55, 56, 57, 97, 98, 99, 100, 101, 102]⟩] w fun e w' => e = .returned (.string (bsA (Lib.trimS p hexSet))) ∧ Below w.heap.size w w' := by
  refine (Any.strings_Trim_laid Tryd.lays160 info69 (bsA p) ⟨#[48, 49, 50, 51, 52, 53, 54, 55, 56, 57, 97, 98, 99, 100, 101, 102]⟩ w (by rw [bsA_size]; omega) (by decide) (ascii_of_all (by decide))).mono ?_
  rintro e w' ⟨rfl, hb⟩
  exact ⟨rfl, hb⟩
set_option maxRecDepth 8000 in
set_option maxHeartbeats 4000000 in
theorem checkG (I : Img) (M : List Res) (w : World) (KA : Option Addr) (kc : Nat) (kb : List UInt8) (S : ByteArray) (now mx : Int) (hst : St I M w) (hk : Byts I KA kb) (hkl : kb.length ≤ 140737488351232) (ht : Tab10 I) (hm3 : I.cell? ⟨3, 0, none⟩ = some (.int .i64 mx))
    (he0 : ErrV I 0) (he1 : ErrV I 1) (hz : S.size ≤ 4000000) :
    Calls Tryd.prog 13 #[.slice KA kb.length kc, .string S, .int .i64 now] w (Ret I (fun v _ M' => M' = M ∧ v = .tuple #[.agg (clC (checkR kb (ls S) now).1), .int .i64 (checkR kb (ls S) now).2])) := by
  have hs := hst.alloc 30 zeroC
  obtain ⟨r, hr⟩ : ∃ r, r = w.heap.size := ⟨_, rfl⟩
  rw [← hr] at hs
  have HK := Lib.hid (And.intro hk hkl)
  have HT := Lib.hid ht
  have HM := Lib.hid hm3
  have HEV := Lib.hid (And.intro he0 he1)
  clear hst hk hkl ht hm3 he0 he1
  go_enter Tryd.func13, Tryd.ntmps13
  go_upto_region 1 with fail
  rw [← hr]
  clear hr
  change St I _ (w.alloc (.cells #[.string ⟨#[]⟩, .string ⟨#[]⟩, .int .i64 0, .int .i64 0] 30)) at hs
  generalize World.alloc _ _ = W at hs ⊢
  obtain ⟨l, hl⟩ : ∃ l, l = splitC 46 (ls S) := ⟨_, rfl⟩
  have HC := Lib.hid (splitG I _ S mx W hs hz HM.out l hl.symm)
  have HSP := Lib.hid hl.symm
  have hls : ∀ x ∈ l, x.length ≤ 4000000 := fun x hx => by
    have h1 := split_len 46 (ls S) x (by rw [← hl]; exact hx)
    rw [ls_len] at h1
    omega
  have HLS := Lib.hid hls
  clear hs hl hls
  go_wp2_with fail
  go_at_call 23
  refine HC.out.mono ?_
  rintro e w1 ⟨_, J, M1, rfl, hl, hs, hM1, g, rfl, hcell⟩
  subst hM1
  clear HC
  have HL := Lib.hid hl
  by_cases h5 : l.length = 5
  rotate_left
  · have HE := Lib.hid (check_none (kb := kb) (now := now) (parts_len (s := ls S) (by rw [HSP.out]; exact h5)))
    have h5' : ((l.length : Int) != 5) = true := by rw [bne_iff_ne]; omega
    obtain ⟨y0, y1, y2, y3, f0, f1, f2, f3, -⟩ := Blk.four (show Blk _ r 30 #[.string ⟨#[]⟩, .string ⟨#[]⟩, .int .i64 0, .int .i64 0] from hs.head)
    have HS0 := Lib.hid (show St J (bk r 30 zeroC :: M) _ from (((hs.set 0 (.string ⟨#[]⟩)).set 1 (.string ⟨#[]⟩)).set 2 (.int .i64 0)).set 3 (.int .i64 0))
    clear hs hcell hl h5
    go_wp2; refine bodyPost_ret (res13 _ _ _ _ _ _ _ _ rfl rfl HS0.out.head) rfl ?_; exact Ret.mk HL.out HS0.out.drop ⟨rfl, by rw [HE.out]; rfl⟩
  obtain ⟨p0, p1, p2, p3, p4, rfl⟩ : ∃ p0 p1 p2 p3 p4, l = [p0, p1, p2, p3, p4] := by
    match l, h5 with
    | [a, b, c, d, e], _ => exact ⟨a, b, c, d, e, rfl⟩
  have k0 : J.cell? ⟨g, 0, none⟩ = some (.string (bsA p0)) := hcell 0 _ rfl
  have k1 : J.cell? ⟨g, 1, none⟩ = some (.string (bsA p1)) := hcell 1 _ rfl
  have k2 : J.cell? ⟨g, 2, none⟩ = some (.string (bsA p2)) := hcell 2 _ rfl
  have k3 : J.cell? ⟨g, 3, none⟩ = some (.string (bsA p3)) := hcell 3 _ rfl
  have k4 : J.cell? ⟨g, 4, none⟩ = some (.string (bsA p4)) := hcell 4 _ rfl
  obtain ⟨R, hR⟩ : ∃ D, D = bsA p0 := ⟨_, rfl⟩
  obtain ⟨U, hU⟩ : ∃ D, D = bsA p1 := ⟨_, rfl⟩
  obtain ⟨D2, hD2⟩ : ∃ D, D = bsA p2 := ⟨_, rfl⟩
  obtain ⟨D3, hD3⟩ : ∃ D, D = bsA p3 := ⟨_, rfl⟩
  obtain ⟨H, hH⟩ : ∃ D, D = bsA p4 := ⟨_, rfl⟩
  have hHs : H.size = p4.length := by rw [hH, bsA_size]
  have hRs : R.size ≤ 4000000 := by rw [hR, bsA_size]; exact HLS.out p0 (by simp)
  have hUs : U.size ≤ 4000000 := by rw [hU, bsA_size]; exact HLS.out p1 (by simp)
  rw [← hR] at k0
  rw [← hU] at k1
  rw [← hD2] at k2
  rw [← hD3] at k3
  rw [← hH] at k4
  have HRU := Lib.hid (And.intro hR hU)
  have HD2 := Lib.hid hD2
  have HD3 := Lib.hid hD3
  have HH := Lib.hid hH
  have HZ := Lib.hid (And.intro hRs hUs)
  have HKK := Lib.hid (And.intro k0 (And.intro k1 (And.intro k2 (And.intro k3 k4))))
  have y4 := hs.cell k4
  have HS := Lib.hid hs
  clear hcell k0 k1 k2 k3 k4 hR hU hD2 hD3 hH hRs hUs hl h5
  simp only [List.length_cons, List.length_nil]
  by_cases h40 : p4.length = 40
  rotate_left
  · have HE := Lib.hid (check_none (kb := kb) (now := now) (parts_40 HSP.out h40))
    have h40' : ((H.size : Int) != 40) = true := by rw [bne_iff_ne]; omega
    obtain ⟨y0, y1, y2, y3, f0, f1, f2, f3, -⟩ := Blk.four (show Blk _ r 30 #[.string ⟨#[]⟩, .string ⟨#[]⟩, .int .i64 0, .int .i64 0] from hs.head)
    have HS0 := Lib.hid (show St J (bk r 30 zeroC :: M) _ from (((hs.set 0 (.string ⟨#[]⟩)).set 1 (.string ⟨#[]⟩)).set 2 (.int .i64 0)).set 3 (.int .i64 0))
    clear hs h40 hHs HS
    go_wp2; refine bodyPost_ret (res13 _ _ _ _ _ _ _ _ rfl rfl HS0.out.head) rfl ?_; exact Ret.mk HL.out HS0.out.drop ⟨rfl, by rw [HE.out]; rfl⟩
  have hH40 : H.size = 40 := by omega
  have HP4 := Lib.hid h40
  clear hHs hs h40
  have HC := Lib.hid (show ∀ w, Calls Tryd.prog 24 #[.string H, .string ⟨#[48, 49, 50, 51, 52, 53, 54, 55, 56, 57, 97, 98, 99, 100, 101, 102]⟩] w fun e w' => e = .returned (.string (bsA (Lib.trimS p4 hexSet))) ∧ Below w.heap.size w w' from fun w => by rw [HH.out]; exact trimG p4 w (by rw [HP4.out]; decide))
  by_cases hhx : hexB p4 = true
  rotate_left
  · have HE := Lib.hid (check_none (kb := kb) (now := now) (parts_hex HSP.out (by simpa using hhx)))
    obtain ⟨T, hT⟩ : ∃ T, T = bsA (Lib.trimS p4 hexSet) := ⟨_, rfl⟩
    rw [← hT] at HC
    have hne : ls T ≠ [] := by
      rw [hT]
      exact fun e => hhx ((hex_trim_iff p4).1 e)
    have hne1 : (T.toList == []) = false := by rw [beq_eq_false_iff_ne, ByteArray.toList_eq]; exact hne
    have hne2 : (T.toList != []) = true := by rw [bne, hne1]; rfl
    clear hhx hT hne
    go_wp2_with fail
    go_at_call 24
    refine (HC.out _).mono ?_
    rintro e w2 ⟨rfl, hb⟩
    have hs := HS.out.below hb
    obtain ⟨y0, y1, y2, y3, f0, f1, f2, f3, -⟩ := Blk.four (show Blk _ r 30 #[.string ⟨#[]⟩, .string ⟨#[]⟩, .int .i64 0, .int .i64 0] from hs.head)
    have HS0 := Lib.hid (show St J (bk r 30 zeroC :: M) _ from (((hs.set 0 (.string ⟨#[]⟩)).set 1 (.string ⟨#[]⟩)).set 2 (.int .i64 0)).set 3 (.int .i64 0))
    clear hs HS HC hb y4
    go_wp2; refine bodyPost_ret (res13 _ _ _ _ _ _ _ _ rfl rfl HS0.out.head) rfl ?_; exact Ret.mk HL.out HS0.out.drop ⟨rfl, by rw [HE.out]; rfl⟩
  have htr : bsA (Lib.trimS p4 hexSet) = ⟨#[]⟩ := congrArg bsA ((hex_trim_iff p4).2 hhx)
  rw [htr] at HC
  have HHX := Lib.hid hhx
  clear htr hhx
  go_wp2_with fail
  go_at_call 24
  refine (HC.out _).mono ?_
  rintro e w2 ⟨rfl, hb⟩
  have hs := HS.out.below hb
  clear HC HS hb y4
  go_upto_region 4 with fail
  replace hs := hs.drew
  refine wp_region_held_drew (S := (fun w' => w'.cell? ⟨g, 0, none⟩ = some (.string R) ∧ w'.cell? ⟨g, 1, none⟩ = some (.string U))) (by kernel_rfl) (by (try dsimp only); exact ⟨hs.cell HKK.out.1, hs.cell HKK.out.2.1⟩) (fun hHeld => ?_)
  generalize World.drew _ = W6 at hs hHeld ⊢
  refine wpAnyH_take (i := 0) (oi := _) (v := ?_) rfl (by kernel_rfl) (by kernel_rfl) (by kernel_rfl) (fun _ _ _ h => h) (Or.inl ⟨by rfl, ?_⟩) (by assumption) ?_
  rotate_left
  · (intro w hSw; (try dsimp only at hSw); go_simp; try with_reducible rfl)
  try simp only [Act.put, List.getElem_toArray, List.getElem_cons_zero, List.getElem_cons_succ, List.setIfInBounds_toArray, List.set_cons_zero, List.set_cons_succ]
  refine wpAnyH_take (i := 1) (oi := _) (v := ?_) rfl (by kernel_rfl) (by kernel_rfl) (by kernel_rfl) (fun _ _ _ h => h) (Or.inl ⟨by rfl, ?_⟩) (by assumption) ?_
  rotate_left
  · (intro w hSw; (try dsimp only at hSw); go_simp; try with_reducible rfl)
  try simp only [Act.put, List.getElem_toArray, List.getElem_cons_zero, List.getElem_cons_succ, List.setIfInBounds_toArray, List.set_cons_zero, List.set_cons_succ]
  refine wpAnyH_take (i := 2) (oi := _) (v := ?_) rfl (by kernel_rfl) (by kernel_rfl) (by kernel_rfl) (fun _ _ _ h => h) (Or.inl ⟨by rfl, ?_⟩) (by assumption) ?_
  rotate_left
  · (intro w hSw; (try dsimp only at hSw); go_simp; try with_reducible rfl)
  try simp only [Act.put, List.getElem_toArray, List.getElem_cons_zero, List.getElem_cons_succ, List.setIfInBounds_toArray, List.set_cons_zero, List.set_cons_succ]
  refine wpAnyH_take (i := 3) (oi := _) (v := ?_) rfl (by kernel_rfl) (by kernel_rfl) (by kernel_rfl) (fun _ _ _ h => h) (Or.inl ⟨by rfl, ?_⟩) (by assumption) ?_
  rotate_left
  · (intro w hSw; (try dsimp only at hSw); go_simp; try with_reducible rfl)
  try simp only [Act.put, List.getElem_toArray, List.getElem_cons_zero, List.getElem_cons_succ, List.setIfInBounds_toArray, List.set_cons_zero, List.set_cons_succ]
  refine wpAnyH_take (i := 4) (oi := _) (v := ?_) rfl (by kernel_rfl) (by kernel_rfl) (by kernel_rfl) (fun _ _ _ h => h) (Or.inl ⟨by rfl, ?_⟩) (by assumption) ?_
  rotate_left
  · (intro w hSw; (try dsimp only at hSw); go_simp; try with_reducible rfl)
  try simp only [Act.put, List.getElem_toArray, List.getElem_cons_zero, List.getElem_cons_succ, List.setIfInBounds_toArray, List.set_cons_zero, List.set_cons_succ]
  refine wpAnyH_take (i := 5) (oi := _) (v := ?_) rfl (by kernel_rfl) (by kernel_rfl) (by kernel_rfl) (fun _ _ _ h => h) (Or.inl ⟨by rfl, ?_⟩) (by assumption) ?_
  rotate_left
  · (intro w hSw; (try dsimp only at hSw); go_simp; try with_reducible rfl)
  try simp only [Act.put, List.getElem_toArray, List.getElem_cons_zero, List.getElem_cons_succ, List.setIfInBounds_toArray, List.set_cons_zero, List.set_cons_succ]
  refine wpAnyH_take (i := 6) (oi := _) (v := ?_) rfl (by kernel_rfl) (by kernel_rfl) (by kernel_rfl) (fun _ _ _ h => h) (Or.inl ⟨by rfl, ?_⟩) (by assumption) ?_
  rotate_left
  · (intro w hSw; (try dsimp only at hSw); go_simp; try with_reducible rfl)
  try simp only [Act.put, List.getElem_toArray, List.getElem_cons_zero, List.getElem_cons_succ, List.setIfInBounds_toArray, List.set_cons_zero, List.set_cons_succ]
  refine wpAnyH_ready (rs := [7]) (by kernel_rfl) (by simp) ?_
  refine (AllReadyH.cons (o := _) rfl (fun K hK => ?_) AllReadyH.nil)
  go_simp
  replace hs := hs.alloc 30 #[.string ⟨#[]⟩, .string ⟨#[]⟩, .int .i64 0, .int .i64 0]
  generalize World.alloc _ _ = W at hs ⊢
  generalize Array.size (World.heap _) = q at hs ⊢
  try clear hHeld
  refine hK.out _ _ (by (try dsimp only); exact ⟨hs.cell HKK.out.1, hs.cell HKK.out.2.1⟩) (fun hHeld => ?_)
  clear hK K
  try simp only [Act.put, List.getElem_toArray, List.getElem_cons_zero, List.getElem_cons_succ, List.setIfInBounds_toArray, List.set_cons_zero, List.set_cons_succ]
  refine wpAnyH_ready (rs := [8]) (by kernel_rfl) (by simp) ?_
  refine (AllReadyH.cons (o := _) rfl (fun K hK => ?_) AllReadyH.nil)
  refine step_store_row (by rfl) 30 _ _ (by rfl) q #[.string R, .string U, .int .i64 0, .int .i64 0] (by rfl) (by rfl) 30 _ hs.head size30 rfl (by simp [Value.oneCell']) ?_
  replace hs := hs.setR #[.string R, .string U, .int .i64 0, .int .i64 0]
  generalize World.setRow _ _ _ = W at hs ⊢
  try clear hHeld
  refine hK.out _ _ (by (try dsimp only); exact ⟨hs.cell HKK.out.1, hs.cell HKK.out.2.1⟩) (fun hHeld => ?_)
  clear hK K
  try simp only [Act.put, List.getElem_toArray, List.getElem_cons_zero, List.getElem_cons_succ, List.setIfInBounds_toArray, List.set_cons_zero, List.set_cons_succ]
  refine wpAnyH_done (by kernel_rfl) ?_ _
  have y2 := hs.cell HKK.out.2.2.1
  obtain ⟨v2, hv2, hc2⟩ := parse64 J _ _ D2 hs (HEV.out.1.mono HL.out) (HEV.out.2.mono HL.out) (by rw [HD2.out, bsA_size]; have := HLS.out p2 (by simp); omega)
  have HV2 := Lib.hid (show ∀ u : Nat, u ≤ 4611686018427387904 → p2 = Lib.decDigits u → v2 = u from fun u hu e => hv2 u (by
    rw [HD2.out]
    show Lib.parseIntB 64 p2 = _
    rw [e]
    exact NuS.parseInt_dec 64 u (.inr rfl) (show u < 2 ^ (64 - 1) by have e : (2 : Nat) ^ (64 - 1) = 9223372036854775808 := rfl; omega)))
  have HC := Lib.hid hc2
  clear hs hHeld hv2 hc2
  go_wp2_with fail
  go_at_call 25
  refine HC.out.mono ?_
  rintro e w3 ⟨x2, rfl, hs⟩
  clear HC y2
  obtain ⟨z0, z1, z2, z3, f0, f1, f2, f3, -⟩ := Blk.four (show Blk w3 q 30 #[.string R, .string U, .int .i64 0, .int .i64 0] from hs.head)
  have HS : Hid (St J (bk q 30 #[.string R, .string U, .int .i64 v2, .int .i64 0] :: _) _) := Lib.hid (hs.set 2 (.int .i64 v2))
  clear hs
  go_upto_region 6 with fail
  clear z0 z1 z2 z3 f0 f1 f2 f3
  generalize World.setCell _ _ _ = W3 at HS ⊢
  obtain ⟨v3, hv3, hc3⟩ := atoiG J _ _ D3 HS.out (HEV.out.1.mono HL.out) (HEV.out.2.mono HL.out) (by rw [HD3.out, bsA_size]; have := HLS.out p3 (by simp); omega)
  have HV3 := Lib.hid (show ∀ u : Nat, u ≤ 7 → p3 = Lib.decDigits u → v3 = u from fun u hu e => hv3 u (by
    rw [HD3.out]
    show Lib.atoiAll p3 = _
    rw [e]
    exact atoi_rights u hu))
  have HC := Lib.hid hc3
  have y3 := HS.out.cell HKK.out.2.2.2.1
  clear hv3 hc3
  go_wp2_with fail
  go_at_call 26
  refine HC.out.mono ?_
  rintro e w4 ⟨x3, rfl, hs⟩
  clear HC HS y3
  obtain ⟨c, hc⟩ : ∃ c : Cl, c = ⟨R, U, v2, v3⟩ := ⟨_, rfl⟩
  obtain ⟨z0, z1, z2, z3, f0, f1, f2, f3, -⟩ := Blk.four (show Blk w4 q 30 #[.string R, .string U, .int .i64 v2, .int .i64 0] from hs.head)
  have HS : Hid (St J (bk q 30 #[.string R, .string U, .int .i64 v2, .int .i64 v3] :: _) _) := Lib.hid (hs.set 3 (.int .i64 v3))
  clear hs
  go_upto_region 7 with fail
  clear z0 z1 z2 z3 f0 f1 f2 f3
  generalize World.setCell _ _ _ = W4 at HS ⊢
  have HCC := Lib.hid hc
  have hcsz : ClSz c := by rw [hc]; unfold ClSz maxLen; exact ⟨by have := HZ.out.1; show R.size ≤ _; omega, by have := HZ.out.2; show U.size ≤ _; omega⟩
  have HCZ := Lib.hid hcsz
  have hcc : clC c = #[.string R, .string U, .int .i64 v2, .int .i64 v3] := by rw [hc]; rfl
  have HCL := Lib.hid hcc
  have HAB := Lib.hid (show (⟨R, U, v2, v3⟩ : Cl) = ⟨bsA p0, bsA p1, v2, v3⟩ from by rw [HRU.out.1, HRU.out.2])
  have hs := HS.out.drew
  have hJ := Img.le.refl J
  have HK4 := Lib.hid HKK.out.2.2.2.2
  clear HS hc hcsz hcc HZ
  cases hg : goodC c
  · have HE := Lib.hid (check_none (kb := kb) (now := now) (parts_A (v2 := v2) (v3 := v3) HSP.out HV2.out HV3.out (by rw [← HAB.out, ← HCC.out]; exact hg)))
    have HG := Lib.hid hg
    clear hg
    refine wp_region_held_drew (S := (fun w' => w'.cell? ⟨q, 0, none⟩ = some (.string R) ∧ w'.cell? ⟨q, 1, none⟩ = some (.string U) ∧ w'.cell? ⟨q, 2, none⟩ = some (.int .i64 v2) ∧ w'.cell? ⟨q, 3, none⟩ = some (.int .i64 v3))) (by kernel_rfl) (by (try dsimp only); exact clKeep (c := ⟨R, U, v2, v3⟩) (show Blk _ q 30 _ from hs.head)) (fun hHeld => ?_)
    refine wpAnyH_take (i := 0) (oi := _) (v := ?_) rfl (by kernel_rfl) (by kernel_rfl) (by kernel_rfl) (fun _ _ _ h => h) (Or.inl ⟨by rfl, ?_⟩) (by assumption) ?_
    rotate_left
    · (intro w hSw; (try dsimp only at hSw); go_simp; try with_reducible rfl)
    try simp only [Act.put, List.getElem_toArray, List.getElem_cons_zero, List.getElem_cons_succ, List.setIfInBounds_toArray, List.set_cons_zero, List.set_cons_succ]
    refine wpAnyH_ready (rs := [1]) (by kernel_rfl) (by simp) ?_
    refine AllReadyH.cons (o := _) rfl (fun K hK => ?_) AllReadyH.nil
    go_simp
    have hc := goodP J _ _ c hs HCZ.out; rw [HG.out, HCL.out] at hc; refine hc.mono ?_; clear hs hc; rintro e w7 ⟨_, _, _, rfl, _, hs, rfl, rfl, rfl⟩
    try clear hHeld
    refine hK.out _ _ (by (try dsimp only); exact clKeep (c := ⟨R, U, v2, v3⟩) (show Blk _ q 30 _ from hs.head)) (fun hHeld => ?_)
    clear hK K
    try simp only [Act.put, List.getElem_toArray, List.getElem_cons_zero, List.getElem_cons_succ, List.setIfInBounds_toArray, List.set_cons_zero, List.set_cons_succ]
    refine wpAnyH_take (i := 2) (oi := _) (v := ?_) rfl (by kernel_rfl) (by kernel_rfl) (by kernel_rfl) (fun _ _ _ h => h) (Or.inl ⟨by rfl, ?_⟩) (by assumption) ?_
    rotate_left
    · (intro w hSw; (try dsimp only at hSw); go_simp; try with_reducible rfl)
    try simp only [Act.put, List.getElem_toArray, List.getElem_cons_zero, List.getElem_cons_succ, List.setIfInBounds_toArray, List.set_cons_zero, List.set_cons_succ]
    refine wpAnyH_take (i := 3) (oi := _) (v := ?_) rfl (by kernel_rfl) (by kernel_rfl) (by kernel_rfl) (fun _ _ _ h => h) (Or.inl ⟨by rfl, ?_⟩) (by assumption) ?_
    rotate_left
    · (intro w hSw; (try dsimp only at hSw); go_simp; try with_reducible rfl)
    try simp only [Act.put, List.getElem_toArray, List.getElem_cons_zero, List.getElem_cons_succ, List.setIfInBounds_toArray, List.set_cons_zero, List.set_cons_succ]
    refine wpAnyH_take (i := 4) (oi := _) (v := undef) rfl (by kernel_rfl) (by kernel_rfl) (by kernel_rfl) (fun _ _ _ h => h) (Or.inr ⟨by rfl, rfl⟩) (by assumption) ?_
    try simp only [Act.put, List.getElem_toArray, List.getElem_cons_zero, List.getElem_cons_succ, List.setIfInBounds_toArray, List.set_cons_zero, List.set_cons_succ]
    refine wpAnyH_take (i := 5) (oi := _) (v := undef) rfl (by kernel_rfl) (by kernel_rfl) (by kernel_rfl) (fun _ _ _ h => h) (Or.inr ⟨by rfl, rfl⟩) (by assumption) ?_
    try simp only [Act.put, List.getElem_toArray, List.getElem_cons_zero, List.getElem_cons_succ, List.setIfInBounds_toArray, List.set_cons_zero, List.set_cons_succ]
    refine wpAnyH_take (i := 6) (oi := _) (v := undef) rfl (by kernel_rfl) (by kernel_rfl) (by kernel_rfl) (fun _ _ _ h => h) (Or.inr ⟨by rfl, rfl⟩) (by assumption) ?_
    try simp only [Act.put, List.getElem_toArray, List.getElem_cons_zero, List.getElem_cons_succ, List.setIfInBounds_toArray, List.set_cons_zero, List.set_cons_succ]
    refine wpAnyH_take (i := 7) (oi := _) (v := undef) rfl (by kernel_rfl) (by kernel_rfl) (by kernel_rfl) (fun _ _ _ h => h) (Or.inr ⟨by rfl, rfl⟩) (by assumption) ?_
    try simp only [Act.put, List.getElem_toArray, List.getElem_cons_zero, List.getElem_cons_succ, List.setIfInBounds_toArray, List.set_cons_zero, List.set_cons_succ]
    refine wpAnyH_take (i := 8) (oi := _) (v := undef) rfl (by kernel_rfl) (by kernel_rfl) (by kernel_rfl) (fun _ _ _ h => h) (Or.inr ⟨by rfl, rfl⟩) (by assumption) ?_
    try simp only [Act.put, List.getElem_toArray, List.getElem_cons_zero, List.getElem_cons_succ, List.setIfInBounds_toArray, List.set_cons_zero, List.set_cons_succ]
    refine wpAnyH_take (i := 9) (oi := _) (v := undef) rfl (by kernel_rfl) (by kernel_rfl) (by kernel_rfl) (fun _ _ _ h => h) (Or.inr ⟨by rfl, rfl⟩) (by assumption) ?_
    try simp only [Act.put, List.getElem_toArray, List.getElem_cons_zero, List.getElem_cons_succ, List.setIfInBounds_toArray, List.set_cons_zero, List.set_cons_succ]
    refine wpAnyH_take (i := 10) (oi := _) (v := undef) rfl (by kernel_rfl) (by kernel_rfl) (by kernel_rfl) (fun _ _ _ h => h) (Or.inr ⟨by rfl, rfl⟩) (by assumption) ?_
    try simp only [Act.put, List.getElem_toArray, List.getElem_cons_zero, List.getElem_cons_succ, List.setIfInBounds_toArray, List.set_cons_zero, List.set_cons_succ]
    refine wpAnyH_take (i := 11) (oi := _) (v := undef) rfl (by kernel_rfl) (by kernel_rfl) (by kernel_rfl) (fun _ _ _ h => h) (Or.inr ⟨by rfl, rfl⟩) (by assumption) ?_
    try simp only [Act.put, List.getElem_toArray, List.getElem_cons_zero, List.getElem_cons_succ, List.setIfInBounds_toArray, List.set_cons_zero, List.set_cons_succ]
    refine wpAnyH_take (i := 12) (oi := _) (v := undef) rfl (by kernel_rfl) (by kernel_rfl) (by kernel_rfl) (fun _ _ _ h => h) (Or.inr ⟨by rfl, rfl⟩) (by assumption) ?_
    try simp only [Act.put, List.getElem_toArray, List.getElem_cons_zero, List.getElem_cons_succ, List.setIfInBounds_toArray, List.set_cons_zero, List.set_cons_succ]
    refine wpAnyH_take (i := 13) (oi := _) (v := ?_) rfl (by kernel_rfl) (by kernel_rfl) (by kernel_rfl) (fun _ _ _ h => h) (Or.inl ⟨by rfl, ?_⟩) (by assumption) ?_
    rotate_left
    · (intro w hSw; (try dsimp only at hSw); go_simp; try with_reducible rfl)
    try simp only [Act.put, List.getElem_toArray, List.getElem_cons_zero, List.getElem_cons_succ, List.setIfInBounds_toArray, List.set_cons_zero, List.set_cons_succ]
    refine wpAnyH_take (i := 14) (oi := _) (v := ?_) rfl (by kernel_rfl) (by kernel_rfl) (by kernel_rfl) (fun _ _ _ h => h) (Or.inl ⟨by rfl, ?_⟩) (by assumption) ?_
    rotate_left
    · (intro w hSw; (try dsimp only at hSw); go_simp; try with_reducible rfl)
    try simp only [Act.put, List.getElem_toArray, List.getElem_cons_zero, List.getElem_cons_succ, List.setIfInBounds_toArray, List.set_cons_zero, List.set_cons_succ]
    refine wpAnyH_done (by kernel_rfl) ?_ _
    obtain ⟨y0, y1, y2, y3, f0, f1, f2, f3, -⟩ := Blk.four (show Blk _ r 30 #[.string ⟨#[]⟩, .string ⟨#[]⟩, .int .i64 0, .int .i64 0] from hs.at 1 rfl)
    have HS0 := Lib.hid (show St J (bk r 30 zeroC :: M) _ from (((((hs.drop).set 0 (.string ⟨#[]⟩)).set 1 (.string ⟨#[]⟩)).set 2 (.int .i64 0)).set 3 (.int .i64 0)))
    clear hs hHeld
    go_wp2; refine bodyPost_ret (res13 _ _ _ _ _ _ _ _ rfl rfl HS0.out.head) rfl ?_; exact Ret.mk HL.out HS0.out.drop ⟨rfl, by rw [HE.out]; rfl⟩
  have HG := Lib.hid hg
  obtain ⟨T, hT⟩ : ∃ T, T = bsA (textC c) := ⟨_, rfl⟩
  have hTs : T.size ≤ 100 := by rw [hT, bsA_size]; exact textC_len HG.out
  have HTT := Lib.hid hT
  obtain ⟨X, hX⟩ : ∃ X, X = T ++ ⟨#[46]⟩ ++ H := ⟨_, rfl⟩
  have HX := Lib.hid hX
  have HXL := Lib.hid (show ls X = textC c ++ 46 :: p4 from by
    rw [HX.out, app_ls, app_ls, HTT.out, HH.out]
    show (textC c ++ [46]) ++ p4 = _
    simp)
  clear hT hX hg
  refine wp_region_held_drew (S := (fun w' => (w'.cell? ⟨q, 0, none⟩ = some (.string R) ∧ w'.cell? ⟨q, 1, none⟩ = some (.string U) ∧ w'.cell? ⟨q, 2, none⟩ = some (.int .i64 v2) ∧ w'.cell? ⟨q, 3, none⟩ = some (.int .i64 v3)) ∧ w'.cell? ⟨g, 4, none⟩ = some (.string H))) (by kernel_rfl) (by (try dsimp only); exact ⟨clKeep (c := ⟨R, U, v2, v3⟩) (show Blk _ q 30 _ from hs.head), hs.cell (hJ.cell HK4.out)⟩) (fun hHeld => ?_)
  generalize World.drew _ = W6 at hs hHeld ⊢
  refine wpAnyH_take (i := 0) (oi := _) (v := ?_) rfl (by kernel_rfl) (by kernel_rfl) (by kernel_rfl) (fun _ _ _ h => h) (Or.inl ⟨by rfl, ?_⟩) (by assumption) ?_
  rotate_left
  · (intro w hSw; (try dsimp only at hSw); go_simp; try with_reducible rfl)
  try simp only [Act.put, List.getElem_toArray, List.getElem_cons_zero, List.getElem_cons_succ, List.setIfInBounds_toArray, List.set_cons_zero, List.set_cons_succ]
  refine wpAnyH_ready (rs := [1]) (by kernel_rfl) (by simp) ?_
  refine (AllReadyH.cons (o := _) rfl (fun K hK => ?_) AllReadyH.nil)
  have hc := goodP J _ W6 c hs HCZ.out
  rw [HG.out, HCL.out] at hc
  go_simp
  refine hc.mono ?_
  clear hs hc
  rintro e w7 ⟨_, _, _, rfl, _, hs, rfl, rfl, rfl⟩
  try clear hHeld
  refine hK.out _ _ (by (try dsimp only); exact ⟨clKeep (c := ⟨R, U, v2, v3⟩) (show Blk _ q 30 _ from hs.head), hs.cell (hJ.cell HK4.out)⟩) (fun hHeld => ?_)
  clear hK K
  try simp only [Act.put, List.getElem_toArray, List.getElem_cons_zero, List.getElem_cons_succ, List.setIfInBounds_toArray, List.set_cons_zero, List.set_cons_succ]
  refine wpAnyH_take (i := 2) (oi := _) (v := ?_) rfl (by kernel_rfl) (by kernel_rfl) (by kernel_rfl) (fun _ _ _ h => h) (Or.inl ⟨by rfl, ?_⟩) (by assumption) ?_
  rotate_left
  · (intro w hSw; (try dsimp only at hSw); go_simp; try with_reducible rfl)
  try simp only [Act.put, List.getElem_toArray, List.getElem_cons_zero, List.getElem_cons_succ, List.setIfInBounds_toArray, List.set_cons_zero, List.set_cons_succ]
  refine wpAnyH_take (i := 3) (oi := _) (v := ?_) rfl (by kernel_rfl) (by kernel_rfl) (by kernel_rfl) (fun _ _ _ h => h) (Or.inl ⟨by rfl, ?_⟩) (by assumption) ?_
  rotate_left
  · (intro w hSw; (try dsimp only at hSw); go_simp; try with_reducible rfl)
  try simp only [Act.put, List.getElem_toArray, List.getElem_cons_zero, List.getElem_cons_succ, List.setIfInBounds_toArray, List.set_cons_zero, List.set_cons_succ]
  refine wpAnyH_take (i := 4) (oi := _) (v := ?_) rfl (by kernel_rfl) (by kernel_rfl) (by kernel_rfl) (fun _ _ _ h => h) (Or.inl ⟨by rfl, ?_⟩) (by assumption) ?_
  rotate_left
  · (intro w hSw; (try dsimp only at hSw); go_simp; try with_reducible rfl)
  try simp only [Act.put, List.getElem_toArray, List.getElem_cons_zero, List.getElem_cons_succ, List.setIfInBounds_toArray, List.set_cons_zero, List.set_cons_succ]
  refine wpAnyH_take (i := 7) (oi := _) (v := ?_) rfl (by kernel_rfl) (by kernel_rfl) (by kernel_rfl) (fun _ _ _ h => h) (Or.inl ⟨by rfl, ?_⟩) (by assumption) ?_
  rotate_left
  · (intro w hSw; (try dsimp only at hSw); go_simp; try with_reducible rfl)
  try simp only [Act.put, List.getElem_toArray, List.getElem_cons_zero, List.getElem_cons_succ, List.setIfInBounds_toArray, List.set_cons_zero, List.set_cons_succ]
  refine wpAnyH_take (i := 8) (oi := _) (v := ?_) rfl (by kernel_rfl) (by kernel_rfl) (by kernel_rfl) (fun _ _ _ h => h) (Or.inl ⟨by rfl, ?_⟩) (by assumption) ?_
  rotate_left
  · (intro w hSw; (try dsimp only at hSw); go_simp; try with_reducible rfl)
  try simp only [Act.put, List.getElem_toArray, List.getElem_cons_zero, List.getElem_cons_succ, List.setIfInBounds_toArray, List.set_cons_zero, List.set_cons_succ]
  refine wpAnyH_take (i := 9) (oi := _) (v := ?_) rfl (by kernel_rfl) (by kernel_rfl) (by kernel_rfl) (fun _ _ _ h => h) (Or.inl ⟨by rfl, ?_⟩) (by assumption) ?_
  rotate_left
  · (intro w hSw; (try dsimp only at hSw); go_simp; try with_reducible rfl)
  try simp only [Act.put, List.getElem_toArray, List.getElem_cons_zero, List.getElem_cons_succ, List.setIfInBounds_toArray, List.set_cons_zero, List.set_cons_succ]
  refine wpAnyH_take (i := 11) (oi := _) (v := ?_) rfl (by kernel_rfl) (by kernel_rfl) (by kernel_rfl) (fun _ _ _ h => h) (Or.inl ⟨by rfl, ?_⟩) (by assumption) ?_
  rotate_left
  · (intro w hSw; (try dsimp only at hSw); go_simp; try with_reducible rfl)
  try simp only [Act.put, List.getElem_toArray, List.getElem_cons_zero, List.getElem_cons_succ, List.setIfInBounds_toArray, List.set_cons_zero, List.set_cons_succ]
  refine wpAnyH_ready (rs := [5]) (by kernel_rfl) (by simp) ?_
  refine (AllReadyH.cons (o := _) rfl (fun K hK => ?_) AllReadyH.nil)
  have hc := textP J _ w7 c hs (HT.out.mono HL.out) HG.out
  rw [← HTT.out, HCL.out] at hc
  go_simp
  refine hc.mono ?_
  clear hs hc
  rintro e w8 ⟨_, _, _, rfl, _, hs, rfl, rfl, rfl⟩
  try clear hHeld
  refine hK.out _ _ (by (try dsimp only); exact ⟨clKeep (c := ⟨R, U, v2, v3⟩) (show Blk _ q 30 _ from hs.head), hs.cell (hJ.cell HK4.out)⟩) (fun hHeld => ?_)
  clear hK K
  try simp only [Act.put, List.getElem_toArray, List.getElem_cons_zero, List.getElem_cons_succ, List.setIfInBounds_toArray, List.set_cons_zero, List.set_cons_succ]
  refine wpAnyH_take (i := 6) (oi := _) (v := ?_) rfl (by kernel_rfl) (by kernel_rfl) (by kernel_rfl) (fun _ _ _ h => h) (Or.inl ⟨by rfl, ?_⟩) (by assumption) ?_
  rotate_left
  · (intro w hSw; (try dsimp only at hSw); go_simp; rw [if_neg (by omega)])
  try simp only [Act.put, List.getElem_toArray, List.getElem_cons_zero, List.getElem_cons_succ, List.setIfInBounds_toArray, List.set_cons_zero, List.set_cons_succ]
  refine wpAnyH_take (i := 10) (oi := _) (v := ?_) rfl (by kernel_rfl) (by kernel_rfl) (by kernel_rfl) (fun _ _ _ h => h) (Or.inl ⟨by rfl, ?_⟩) (by assumption) ?_
  rotate_left
  · (intro w hSw; (try dsimp only at hSw); go_simp; rw [if_neg (by omega), ← HX.out])
  try simp only [Act.put, List.getElem_toArray, List.getElem_cons_zero, List.getElem_cons_succ, List.setIfInBounds_toArray, List.set_cons_zero, List.set_cons_succ]
  refine wpAnyH_take (i := 12) (oi := _) (v := ?_) rfl (by kernel_rfl) (by kernel_rfl) (by kernel_rfl) (fun _ _ _ h => h) (Or.inl ⟨by rfl, ?_⟩) (by assumption) ?_
  rotate_left
  · (intro w hSw; (try dsimp only at hSw); go_simp; try with_reducible rfl)
  try simp only [Act.put, List.getElem_toArray, List.getElem_cons_zero, List.getElem_cons_succ, List.setIfInBounds_toArray, List.set_cons_zero, List.set_cons_succ]
  refine wpAnyH_take (i := 13) (oi := _) (v := ?_) rfl (by kernel_rfl) (by kernel_rfl) (by kernel_rfl) (fun _ _ _ h => h) (Or.inl ⟨by rfl, ?_⟩) (by assumption) ?_
  rotate_left
  · (intro w hSw; (try dsimp only at hSw); go_simp; try with_reducible rfl)
  try simp only [Act.put, List.getElem_toArray, List.getElem_cons_zero, List.getElem_cons_succ, List.setIfInBounds_toArray, List.set_cons_zero, List.set_cons_succ]
  refine wpAnyH_take (i := 14) (oi := _) (v := ?_) rfl (by kernel_rfl) (by kernel_rfl) (by kernel_rfl) (fun _ _ _ h => h) (Or.inl ⟨by rfl, ?_⟩) (by assumption) ?_
  rotate_left
  · (intro w hSw; (try dsimp only at hSw); go_simp; try with_reducible rfl)
  try simp only [Act.put, List.getElem_toArray, List.getElem_cons_zero, List.getElem_cons_succ, List.setIfInBounds_toArray, List.set_cons_zero, List.set_cons_succ]
  refine wpAnyH_done (by kernel_rfl) ?_ _
  by_cases htx : ls X = ls S
  rotate_left
  · have HE := Lib.hid (check_none (kb := kb) (now := now) (parts_B (v2 := v2) (v3 := v3) HSP.out HV2.out HV3.out (by rw [← HAB.out, ← HCC.out]; exact HG.out) (by rw [← HAB.out, ← HCC.out, ← HXL.out]; exact htx)))
    rw [show (!(X.toList == S.toList)) = true from by rw [toList_no htx]; rfl]
    obtain ⟨y0, y1, y2, y3, f0, f1, f2, f3, -⟩ := Blk.four (show Blk _ r 30 #[.string ⟨#[]⟩, .string ⟨#[]⟩, .int .i64 0, .int .i64 0] from hs.at 1 rfl)
    have HS0 := Lib.hid (show St J (bk r 30 zeroC :: M) _ from (((((hs.drop).set 0 (.string ⟨#[]⟩)).set 1 (.string ⟨#[]⟩)).set 2 (.int .i64 0)).set 3 (.int .i64 0)))
    clear hs hHeld htx
    go_wp2; refine bodyPost_ret (res13 _ _ _ _ _ _ _ _ rfl rfl HS0.out.head) rfl ?_; exact Ret.mk HL.out HS0.out.drop ⟨rfl, by rw [HE.out]; rfl⟩
  have HPS := Lib.hid (parts_C (v2 := v2) (v3 := v3) HSP.out (by rw [← HAB.out, ← HCC.out]; exact HG.out) (by rw [← HAB.out, ← HCC.out, ← HXL.out]; exact htx) HP4.out HHX.out)
  obtain rfl : S = X := ls_inj htx.symm
  rw [show (!(S.toList == S.toList)) = false from by simp]
  have HS := Lib.hid hs
  clear hs hHeld htx
  obtain ⟨H2, hH2⟩ : ∃ h, h = bsA (hexT kb c) := ⟨_, rfl⟩
  have HSL := Lib.hid (show ∀ (N : List Res) (w' : World), St J N w' → Calls Tryd.prog 20 #[.slice KA kb.length kc, .string T] w' (Ret J (fun v _ M' => v = .string H2 ∧ M' = N)) from fun N w' h => by
    have h1 := sealP J N w' KA kc kb (bsA (textC c)) h (HK.out.1.mono HL.out) HK.out.2 (by rw [← HTT.out]; omega)
    rw [HTT.out, hH2]
    exact h1)
  have HH2 := Lib.hid hH2
  clear hH2
  go_upto_region 9 with fail
  have hs := HS.out.drew
  clear HS
  refine wp_region_held_drew (S := (fun w' => (w'.cell? ⟨q, 0, none⟩ = some (.string R) ∧ w'.cell? ⟨q, 1, none⟩ = some (.string U) ∧ w'.cell? ⟨q, 2, none⟩ = some (.int .i64 v2) ∧ w'.cell? ⟨q, 3, none⟩ = some (.int .i64 v3)) ∧ w'.cell? ⟨g, 4, none⟩ = some (.string H))) (by kernel_rfl) (by (try dsimp only); exact ⟨clKeep (c := ⟨R, U, v2, v3⟩) (show Blk _ q 30 _ from hs.head), hs.cell (hJ.cell HK4.out)⟩) (fun hHeld => ?_)
  generalize World.drew _ = W6 at hs hHeld ⊢
  refine wpAnyH_take (i := 0) (oi := _) (v := ?_) rfl (by kernel_rfl) (by kernel_rfl) (by kernel_rfl) (fun _ _ _ h => h) (Or.inl ⟨by rfl, ?_⟩) (by assumption) ?_
  rotate_left
  · (intro w hSw; (try dsimp only at hSw); go_simp; try with_reducible rfl)
  try simp only [Act.put, List.getElem_toArray, List.getElem_cons_zero, List.getElem_cons_succ, List.setIfInBounds_toArray, List.set_cons_zero, List.set_cons_succ]
  refine wpAnyH_take (i := 1) (oi := _) (v := ?_) rfl (by kernel_rfl) (by kernel_rfl) (by kernel_rfl) (fun _ _ _ h => h) (Or.inl ⟨by rfl, ?_⟩) (by assumption) ?_
  rotate_left
  · (intro w hSw; (try dsimp only at hSw); go_simp; try with_reducible rfl)
  try simp only [Act.put, List.getElem_toArray, List.getElem_cons_zero, List.getElem_cons_succ, List.setIfInBounds_toArray, List.set_cons_zero, List.set_cons_succ]
  refine wpAnyH_take (i := 4) (oi := _) (v := ?_) rfl (by kernel_rfl) (by kernel_rfl) (by kernel_rfl) (fun _ _ _ h => h) (Or.inl ⟨by rfl, ?_⟩) (by assumption) ?_
  rotate_left
  · (intro w hSw; (try dsimp only at hSw); go_simp; try with_reducible rfl)
  try simp only [Act.put, List.getElem_toArray, List.getElem_cons_zero, List.getElem_cons_succ, List.setIfInBounds_toArray, List.set_cons_zero, List.set_cons_succ]
  refine wpAnyH_take (i := 5) (oi := _) (v := ?_) rfl (by kernel_rfl) (by kernel_rfl) (by kernel_rfl) (fun _ _ _ h => h) (Or.inl ⟨by rfl, ?_⟩) (by assumption) ?_
  rotate_left
  · (intro w hSw; (try dsimp only at hSw); go_simp; try with_reducible rfl)
  try simp only [Act.put, List.getElem_toArray, List.getElem_cons_zero, List.getElem_cons_succ, List.setIfInBounds_toArray, List.set_cons_zero, List.set_cons_succ]
  refine wpAnyH_take (i := 6) (oi := _) (v := ?_) rfl (by kernel_rfl) (by kernel_rfl) (by kernel_rfl) (fun _ _ _ h => h) (Or.inl ⟨by rfl, ?_⟩) (by assumption) ?_
  rotate_left
  · (intro w hSw; (try dsimp only at hSw); go_simp; try with_reducible rfl)
  try simp only [Act.put, List.getElem_toArray, List.getElem_cons_zero, List.getElem_cons_succ, List.setIfInBounds_toArray, List.set_cons_zero, List.set_cons_succ]
  refine wpAnyH_ready (rs := [2]) (by kernel_rfl) (by simp) ?_
  refine (AllReadyH.cons (o := _) rfl (fun K hK => ?_) AllReadyH.nil)
  have hc := textP J _ W6 c hs (HT.out.mono HL.out) HG.out
  rw [← HTT.out, HCL.out] at hc
  go_simp
  refine hc.mono ?_
  clear hs hc
  rintro e w8 ⟨_, _, _, rfl, _, hs, rfl, rfl, rfl⟩
  try clear hHeld
  refine hK.out _ _ (by (try dsimp only); exact ⟨clKeep (c := ⟨R, U, v2, v3⟩) (show Blk _ q 30 _ from hs.head), hs.cell (hJ.cell HK4.out)⟩) (fun hHeld => ?_)
  clear hK K
  try simp only [Act.put, List.getElem_toArray, List.getElem_cons_zero, List.getElem_cons_succ, List.setIfInBounds_toArray, List.set_cons_zero, List.set_cons_succ]
  refine wpAnyH_ready (rs := [3]) (by kernel_rfl) (by simp) ?_
  refine (AllReadyH.cons (o := _) rfl (fun K hK => ?_) AllReadyH.nil)
  go_simp
  refine (HSL.out _ _ hs).mono ?_
  clear hs
  rintro e w9 ⟨_, J2, M9, rfl, hJ, hs, rfl, hM9⟩
  subst hM9
  try clear hHeld
  refine hK.out _ _ (by (try dsimp only); exact ⟨clKeep (c := ⟨R, U, v2, v3⟩) (show Blk _ q 30 _ from hs.head), hs.cell (hJ.cell HK4.out)⟩) (fun hHeld => ?_)
  clear hK K
  try simp only [Act.put, List.getElem_toArray, List.getElem_cons_zero, List.getElem_cons_succ, List.setIfInBounds_toArray, List.set_cons_zero, List.set_cons_succ]
  refine wpAnyH_take (i := 7) (oi := _) (v := ?_) rfl (by kernel_rfl) (by kernel_rfl) (by kernel_rfl) (fun _ _ _ h => h) (Or.inl ⟨by rfl, ?_⟩) (by assumption) ?_
  rotate_left
  · (intro w hSw; (try dsimp only at hSw); go_simp; try with_reducible rfl)
  try simp only [Act.put, List.getElem_toArray, List.getElem_cons_zero, List.getElem_cons_succ, List.setIfInBounds_toArray, List.set_cons_zero, List.set_cons_succ]
  refine wpAnyH_take (i := 8) (oi := _) (v := ?_) rfl (by kernel_rfl) (by kernel_rfl) (by kernel_rfl) (fun _ _ _ h => h) (Or.inl ⟨by rfl, ?_⟩) (by assumption) ?_
  rotate_left
  · (intro w hSw; (try dsimp only at hSw); go_simp; try with_reducible rfl)
  try simp only [Act.put, List.getElem_toArray, List.getElem_cons_zero, List.getElem_cons_succ, List.setIfInBounds_toArray, List.set_cons_zero, List.set_cons_succ]
  refine wpAnyH_done (by kernel_rfl) ?_ _
  have HL2 := Lib.hid (HL.out.trans hJ)
  have HPC := Lib.hid (show partsR (ls S) = some (c, p4) from by rw [HCC.out, HAB.out]; exact HPS.out)
  obtain ⟨z0, z1, z2, z3, -⟩ := Blk.four (show Blk _ q 30 #[.string R, .string U, .int .i64 v2, .int .i64 v3] from hs.head)
  obtain ⟨y0, y1, y2, y3, f0, f1, f2, f3, -⟩ := Blk.four (show Blk _ r 30 #[.string ⟨#[]⟩, .string ⟨#[]⟩, .int .i64 0, .int .i64 0] from hs.at 1 rfl)
  have HS0 := Lib.hid (show St J2 (bk q 30 #[.string R, .string U, .int .i64 v2, .int .i64 v3] :: bk r 30 zeroC :: M) _ from (((hs.set1 0 (.string ⟨#[]⟩)).set1 1 (.string ⟨#[]⟩)).set1 2 (.int .i64 0)).set1 3 (.int .i64 0))
  have HS1 := Lib.hid (show St J2 (bk q 30 #[.string R, .string U, .int .i64 v2, .int .i64 v3] :: bk r 30 #[.string R, .string U, .int .i64 v2, .int .i64 v3] :: M) _ from (((hs.set1 0 (.string R)).set1 1 (.string U)).set1 2 (.int .i64 v2)).set1 3 (.int .i64 v3))
  clear hs hHeld hJ HSL
  by_cases hsl : hexT kb c = p4
  rotate_left
  · have HE := Lib.hid (check_auth (now := now) HPC.out hsl)
    rw [show (!(H2.toList == H.toList)) = true from by rw [toList_no (by rw [HH2.out, HH.out]; exact hsl)]; rfl]
    clear hsl HS1
    go_wp2
    refine bodyPost_ret (res13 _ _ _ _ _ _ _ _ rfl rfl (HS0.out.at 1 rfl)) rfl ?_
    exact Ret.mk HL2.out HS0.out.drop.drop ⟨rfl, by rw [HE.out]; rfl⟩
  obtain rfl : H2 = H := by rw [HH2.out, HH.out, hsl]
  have HSE := Lib.hid hsl
  rw [show (!(H2.toList == H2.toList)) = false from by simp]
  clear hsl
  by_cases hn : v2 < now
  · have HE := Lib.hid (check_old (now := now) HPC.out HSE.out (by rw [HCC.out]; exact hn))
    clear HS1
    go_wp2
    refine bodyPost_ret (res13 _ _ _ _ _ _ _ _ rfl rfl (HS0.out.at 1 rfl)) rfl ?_
    exact Ret.mk HL2.out HS0.out.drop.drop ⟨rfl, by rw [HE.out]; rfl⟩
  · have hn' : now ≤ v2 := by omega
    have HE := Lib.hid (check_ok (now := now) HPC.out HSE.out (by rw [HCC.out]; exact hn))
    clear HS0 hn
    go_wp2
    refine bodyPost_ret (res13 _ _ _ _ _ _ _ _ rfl rfl (HS1.out.at 1 rfl)) rfl ?_
    exact Ret.mk HL2.out HS1.out.drop.drop ⟨rfl, by rw [HE.out, ← HCL.out]⟩
end Go.Proofs.YtakgdmcekhafoaaDoor
