/- rostrumref06.attrs, print. -/
import Derived.Test.YtpbbincgddmbiaaSdT
namespace Go.Proofs.Ytpbbincgddmbiaa
open Go.RowKit
set_option linter.unusedSimpArgs false

theorem attrsL_split (l : List At) (k : Nat) : attrsL l = attrsL (l.take k) ++ attrsL (l.drop k) := by
  have h : ∀ (a b : List At), attrsL (a ++ b) = attrsL a ++ attrsL b := fun a b => by
    induction a with
    | nil => simp [attrsL]
    | cons x r ih => simp [attrsL, ih]
  rw [← h, List.take_append_drop]
theorem attrsL_take_le (l : List At) (k : Nat) : (attrsL (l.take k)).length ≤ (attrsL l).length := by
  have := congrArg List.length (attrsL_split l k)
  rw [List.length_append] at this
  omega
theorem partsL_split (l : List Pa) (k : Nat) : partsL l = partsL (l.take k) ++ partsL (l.drop k) := by
  have h : ∀ (a b : List Pa), partsL (a ++ b) = partsL a ++ partsL b := fun a b => by
    induction a with
    | nil => simp [partsL]
    | cons x r ih => simp [partsL, ih]
  rw [← h, List.take_append_drop]
theorem partsL_take_le (l : List Pa) (k : Nat) : (partsL (l.take k)).length ≤ (partsL l).length := by
  have := congrArg List.length (partsL_split l k)
  rw [List.length_append] at this
  omega
theorem valueL_len (v : ByteArray) : (valueL v).length = if v.size = 0 then 0 else 1 + v.size := by
  unfold valueL
  split
  · rfl
  · rw [List.length_cons, ls_len]; omega
theorem attrL_len2 (a : At) : (attrL a).length = 4 + a.name.size + (if a.value.size = 0 then 0 else 1 + a.value.size) := by
  unfold attrL
  simp only [List.length_cons, List.length_append, List.length_nil, ls_len, valueL_len]
  omega
set_option maxRecDepth 8000 in
set_option maxHeartbeats 4000000 in
theorem attrs39R (I : Img) (M : List Res) (w : World) (vA : Value) (l : List At) (hst : St I M w) (ha : Attrs I vA l) (hl : l.length ≤ 140737488351232) (hlen : (attrsL l).length ≤ 100000000) :
    Calls Try.prog 39 #[vA] w fun e w' => e = .returned (.string (bsA (attrsL l))) ∧ w' = w := by
  have HA := Lib.hid ha
  obtain ⟨A, c, rfl, _⟩ := ha
  have HS := Lib.hid hst
  have HLEN := Lib.hid hlen
  clear hst hlen
  go_enter Try.func39, Try.ntmps39
  go_upto_region 3 with fail
  go_loopw [3, 7] (fun sv iv wr => ∃ (k : Nat) (t : ByteArray), k ≤ l.length ∧ iv = .int .i64 k ∧ sv = .string t ∧ t.size ≤ 100000000 ∧ Hid (t.data.toList = attrsL (l.take k)) ∧ wr = w) (fun _ iv _ => l.length - (intOf iv).toNat)
  case atStart => exact ⟨0, ⟨#[]⟩, by omega, rfl, rfl, Nat.zero_le _, Lib.hid rfl, rfl⟩
  case round =>
    obtain ⟨k, t, hk, rfl, rfl, htz, HT, rfl⟩ := hrel
    by_cases hlt : k < l.length
    rotate_left
    · have hke : k = l.length := by omega
      have HE := Lib.hid (show t = bsA (attrsL l) by rw [← Lib.mk_data t]; have := HT.out; rw [hke, List.take_length] at this; unfold bsA; rw [← this])
      have hgt : (l.length : Int) ≤ k := by omega
      clear hlt hke
      go_wp2
      go_returns
      exact ⟨by rw [HE.out]; rfl, rfl⟩
    obtain ⟨g, o, c', e1, hc⟩ := HA.out.at (by omega)
    obtain ⟨e1, -, e3⟩ := Value.slice.inj e1
    subst e1 e3
    obtain ⟨y0, y1⟩ := hc M _ HS.out k hlt
    have HTK := Lib.hid (show attrsL (l.take (k + 1)) = attrsL (l.take k) ++ attrL l[k] by rw [List.take_succ_eq_append_getElem hlt, attrsL_snoc])
    have hb1 : t.size + (attrL l[k]).length ≤ 100000000 := by
      have h1 := attrsL_take_le l (k + 1)
      rw [HTK.out, List.length_append, ← HT.out, Array.length_toList] at h1
      have h2 := HLEN.out
      have h3 : t.size = t.data.size := rfl
      omega
    obtain ⟨a, hae⟩ : ∃ a, a = l[k] := ⟨_, rfl⟩
    rw [← hae] at y0 y1 hb1 HTK
    clear hc hae
    obtain ⟨an, av⟩ := a
    dsimp only at y0 y1
    rw [attrL_len2] at hb1
    dsimp only at hb1
    have hu1 : (t ++ (⟨#[97, 61]⟩ : ByteArray)).size = t.size + 2 := by rw [ByteArray.size_append]; rfl
    have hu2 : (t ++ (⟨#[97, 61]⟩ : ByteArray) ++ an).size = t.size + 2 + an.size := by rw [ByteArray.size_append, hu1]
    by_cases h0 : av.size = 0
    · have he := isEmpty_yes h0
      have hu3 : (t ++ (⟨#[97, 61]⟩ : ByteArray) ++ an ++ ⟨#[13, 10]⟩).size = t.size + 2 + an.size + 2 := by rw [ByteArray.size_append, hu2]; rfl
      have HX := Lib.hid (show (t ++ (⟨#[97, 61]⟩ : ByteArray) ++ an ++ ⟨#[13, 10]⟩).data.toList = attrsL (l.take (k + 1)) by
        rw [HTK.out]; simp only [app_list, HT.out]; unfold attrL valueL; rw [if_pos h0]; simp)
      rw [if_pos h0] at hb1
      clear h0
      go_wp2
      go_roundw
      case rel => exact ⟨k + 1, _, by omega, by go_num, rfl, by rw [hu3]; omega, HX, trivial⟩
      case measure => simp [intOf]; omega
    · have he := isEmpty_no h0
      have hu4 : (t ++ (⟨#[97, 61]⟩ : ByteArray) ++ an ++ ⟨#[58]⟩).size = t.size + 2 + an.size + 1 := by rw [ByteArray.size_append, hu2]; rfl
      have hu5 : (t ++ (⟨#[97, 61]⟩ : ByteArray) ++ an ++ ⟨#[58]⟩ ++ av).size = t.size + 2 + an.size + 1 + av.size := by rw [ByteArray.size_append, hu4]
      have hu3 : (t ++ (⟨#[97, 61]⟩ : ByteArray) ++ an ++ ⟨#[58]⟩ ++ av ++ ⟨#[13, 10]⟩).size = t.size + 2 + an.size + 1 + av.size + 2 := by rw [ByteArray.size_append, hu5]; rfl
      have HX := Lib.hid (show (t ++ (⟨#[97, 61]⟩ : ByteArray) ++ an ++ ⟨#[58]⟩ ++ av ++ ⟨#[13, 10]⟩).data.toList = attrsL (l.take (k + 1)) by
        rw [HTK.out]; simp only [app_list, HT.out]; unfold attrL valueL; rw [if_neg h0]; simp)
      rw [if_neg h0] at hb1
      clear h0
      go_wp2
      go_roundw
      case rel => exact ⟨k + 1, _, by omega, by go_num, rfl, by rw [hu3]; omega, HX, trivial⟩
      case measure => simp [intOf]; omega
theorem head26Keep {w : World} {b : Nat} {x : Ss} {vA vP : Value} (h : Blk w b 26 (head5 x vA vP)) : w.cell? ⟨b, 0, none⟩ = some (.string x.origin) ∧ w.cell? ⟨b, 1, none⟩ = some (.string x.name) ∧ w.cell? ⟨b, 2, none⟩ = some (.string x.time) ∧ w.cell? ⟨b, 3, none⟩ = some vA ∧ w.cell? ⟨b, 4, none⟩ = some vP := ⟨h.cell 0, h.cell 1, h.cell 2, h.cell 3, h.cell 4⟩
theorem headS_len (x : Ss) : (headS x).length = 17 + x.origin.size + x.name.size + x.time.size := by
  unfold headS
  simp only [List.length_cons, List.length_append, List.length_nil, ls_len]
  omega
theorem connL_len (v : ByteArray) : (connL v).length = if v.size = 0 then 0 else 4 + v.size := by
  unfold connL
  split
  · rfl
  · simp only [List.length_cons, List.length_append, List.length_nil, ls_len]; omega
theorem partL_len2 (p : Pa) : (partL p).length = 4 + p.line.size + (if p.conn.size = 0 then 0 else 4 + p.conn.size) + (attrsL p.attrs).length := by
  unfold partL
  simp only [List.length_cons, List.length_append, List.length_nil, ls_len, connL_len]
  omega
set_option maxRecDepth 8000 in
set_option maxHeartbeats 8000000 in
theorem printRR (I : Img) (M : List Res) (w : World) (vA vP : Value) (x : Ss) (pv : List (Pa × Value)) (hst : St I M w) (ha : Ses I vA vP pv x) (hlen : (printS x).length ≤ 100000000)
    (hpm : pv.length ≤ 140737488351232) (hal : x.attrs.length ≤ 140737488351232) (hpe : ∀ p ∈ pv, p.1.attrs.length ≤ 140737488351232) :
    Calls Try.prog 26 #[.agg (head5 x vA vP)] w (Ret I (fun v J M' => I = J ∧ v = .string (bsA (printS x)) ∧ M' = M)) := by
  have HA := Lib.hid ha
  have HPE := Lib.hid hpe
  have hl3 : (headS x).length + (attrsL x.attrs).length + (partsL x.parts).length ≤ 100000000 := by
    unfold printS at hlen
    rw [List.length_append, List.length_append] at hlen
    omega
  have hhl := headS_len x
  rw [hhl] at hl3
  clear hhl hlen
  obtain ⟨aA, cA, rfl, _⟩ := ha.attrs
  obtain ⟨aP, cP, rfl, _⟩ := ha.parts
  have hs := hst.alloc 26 (head5 x (.slice aA x.attrs.length cA) (.slice aP pv.length cP))
  obtain ⟨b0, hb0⟩ : ∃ b, b = w.heap.size := ⟨_, rfl⟩
  rw [← hb0] at hs
  clear hst ha hpe
  go_enter Try.func26, Try.ntmps26
  go_upto_region 1 with fail
  rw [← hb0]
  clear hb0
  generalize World.alloc _ _ = W0 at hs ⊢
  have HAT := Lib.hid (fun n => attrs39R I _ (W0.drewN n) (.slice aA x.attrs.length cA) x.attrs (hs.drewN n) HA.out.attrs hal (by omega))
  obtain ⟨hc, hf, hl⟩ := Blk.all hs.head
  have HS := Lib.hid hs
  have haz := bsA_size (attrsL x.attrs)
  have hu1 : ((⟨#[118, 61, 48, 13, 10, 111, 61]⟩ : ByteArray) ++ x.origin).size = 7 + x.origin.size := by rw [ByteArray.size_append]; rfl
  have hu2 : ((⟨#[118, 61, 48, 13, 10, 111, 61]⟩ : ByteArray) ++ x.origin ++ ⟨#[13, 10, 115, 61]⟩).size = 7 + x.origin.size + 4 := by rw [ByteArray.size_append, hu1]; rfl
  have hu3 : ((⟨#[118, 61, 48, 13, 10, 111, 61]⟩ : ByteArray) ++ x.origin ++ ⟨#[13, 10, 115, 61]⟩ ++ x.name).size = 7 + x.origin.size + 4 + x.name.size := by rw [ByteArray.size_append, hu2]
  have hu4 : ((⟨#[118, 61, 48, 13, 10, 111, 61]⟩ : ByteArray) ++ x.origin ++ ⟨#[13, 10, 115, 61]⟩ ++ x.name ++ ⟨#[13, 10, 116, 61]⟩).size = 7 + x.origin.size + 4 + x.name.size + 4 := by rw [ByteArray.size_append, hu3]; rfl
  have hu5 : ((⟨#[118, 61, 48, 13, 10, 111, 61]⟩ : ByteArray) ++ x.origin ++ ⟨#[13, 10, 115, 61]⟩ ++ x.name ++ ⟨#[13, 10, 116, 61]⟩ ++ x.time).size = 7 + x.origin.size + 4 + x.name.size + 4 + x.time.size := by rw [ByteArray.size_append, hu4]
  have hu6 : ((⟨#[118, 61, 48, 13, 10, 111, 61]⟩ : ByteArray) ++ x.origin ++ ⟨#[13, 10, 115, 61]⟩ ++ x.name ++ ⟨#[13, 10, 116, 61]⟩ ++ x.time ++ ⟨#[13, 10]⟩).size = 7 + x.origin.size + 4 + x.name.size + 4 + x.time.size + 2 := by rw [ByteArray.size_append, hu5]; rfl
  have hu7 : ((⟨#[118, 61, 48, 13, 10, 111, 61]⟩ : ByteArray) ++ x.origin ++ ⟨#[13, 10, 115, 61]⟩ ++ x.name ++ ⟨#[13, 10, 116, 61]⟩ ++ x.time ++ ⟨#[13, 10]⟩ ++ bsA (attrsL x.attrs)).size = 7 + x.origin.size + 4 + x.name.size + 4 + x.time.size + 2 + (attrsL x.attrs).length := by rw [ByteArray.size_append, hu6, haz]
  have HHD := Lib.hid (show ((⟨#[118, 61, 48, 13, 10, 111, 61]⟩ : ByteArray) ++ x.origin ++ ⟨#[13, 10, 115, 61]⟩ ++ x.name ++ ⟨#[13, 10, 116, 61]⟩ ++ x.time ++ ⟨#[13, 10]⟩ ++ bsA (attrsL x.attrs)).data.toList = headS x ++ attrsL x.attrs by
    simp only [app_list, headS, ls, bsA_list]
    simp)
  clear hs
  go_quiet ((go_at_call 39; exact Calls.quiet_of_same (HAT.out _)))
  have hhl := headS_len x
  have HT0 := Lib.hid hu7
  have HSn := Lib.hid (HS.out.drewN nq)
  generalize hTe : ((⟨#[118, 61, 48, 13, 10, 111, 61]⟩ : ByteArray) ++ x.origin ++ ⟨#[13, 10, 115, 61]⟩ ++ x.name ++ ⟨#[13, 10, 116, 61]⟩ ++ x.time ++ ⟨#[13, 10]⟩ ++ bsA (attrsL x.attrs)) = T1 at HHD HT0 ⊢
  clear hTe
  have hT1 : T1.size ≤ 100000000 := by rw [HT0.out]; omega
  have HLEN := Lib.hid (show (headS x ++ attrsL x.attrs ++ partsL x.parts).length ≤ 100000000 by rw [List.length_append, List.length_append]; omega)
  clear hu1 hu2 hu3 hu4 hu5 hu6 hu7 haz HT0 HAT hc hf hl HS hhl hl3
  generalize World.drewN _ _ = W1 at HSn ⊢
  obtain ⟨hc, hf, hl⟩ := Blk.all HSn.out.head
  go_upto_region 3 with fail
  clear hc hf hl
  go_loopw [3, 24] (fun sv iv wr => ∃ (k : Nat) (t : ByteArray), k ≤ pv.length ∧ iv = .int .i64 k ∧ sv = .string t ∧ t.size ≤ 100000000 ∧ Hid (t.data.toList = headS x ++ attrsL x.attrs ++ partsL ((partsOf pv).take k)) ∧ Hid (St I (bk b0 26 (head5 x (.slice aA x.attrs.length cA) (.slice aP pv.length cP)) :: M) wr)) (fun _ iv _ => pv.length - (intOf iv).toNat)
  case atStart => exact ⟨0, T1, by omega, rfl, rfl, hT1, Lib.hid (by rw [HHD.out]; simp [partsL]), HSn⟩
  case round =>
    obtain ⟨k, t, hk, rfl, rfl, htz, HT, HSr⟩ := hrel
    clear HSn
    by_cases hlt : k < pv.length
    rotate_left
    · have hke : k = pv.length := by omega
      have HE := Lib.hid (show t = bsA (printS x) by
        rw [← Lib.mk_data t]; have := HT.out
        rw [hke, List.take_of_length_le (by simp [partsOf]), HA.out.same, List.append_assoc] at this
        unfold bsA printS; rw [← this])
      have hgt : (pv.length : Int) ≤ k := by omega
      clear hlt hke HT
      go_wp2
      go_returns
      exact Ret.mk (.refl I) HSr.out.drop ⟨rfl, by rw [HE.out]; rfl, rfl⟩
    obtain ⟨g, o, c', e1, hcp⟩ := HA.out.parts.at (by omega)
    obtain ⟨e1, -, e3⟩ := Value.slice.inj e1
    subst e1 e3
    obtain ⟨y0, y1, y2⟩ := hcp _ _ HSr.out k hlt
    obtain ⟨hc, hf, hl⟩ := Blk.all HSr.out.head
    have hlp : k < (partsOf pv).length := by simpa [partsOf] using hlt
    have HTK := Lib.hid (show headS x ++ attrsL x.attrs ++ partsL ((partsOf pv).take (k + 1)) = headS x ++ attrsL x.attrs ++ partsL ((partsOf pv).take k) ++ partL pv[k].1 by
      rw [List.take_succ_eq_append_getElem hlp, partsL_snoc]
      simp [partsOf])
    have hb1 : t.size + (partL pv[k].1).length ≤ 100000000 := by
      have h1 := partsL_take_le (partsOf pv) (k + 1)
      have h2 := HLEN.out
      have h4 := congrArg List.length HTK.out
      have h5 := congrArg List.length HT.out
      have h6 : t.data.toList.length = t.size := Array.length_toList ..
      rw [← HA.out.same] at h2
      rw [List.length_append] at h2
      rw [List.length_append, List.length_append (bs := partL pv[k].1), ← h5, h6] at h4
      omega
    have HP1 := Lib.hid (HA.out.each pv[k] (List.getElem_mem hlt))
    have hz1 := HPE.out pv[k] (List.getElem_mem hlt)
    obtain ⟨a, hae⟩ : ∃ a, a = pv[k] := ⟨_, rfl⟩
    rw [← hae] at y0 y1 y2 HTK HP1 hz1 hb1
    clear hcp hae hlp
    obtain ⟨⟨al, ac, aa⟩, av⟩ := a
    dsimp only at y0 y1 y2 HTK HP1 hz1
    rw [partL_len2] at hb1
    dsimp only at hb1
    obtain ⟨aV, cV, rfl, _⟩ := HP1.out
    have HC := Lib.hid (attrs39R I _ wr (.slice aV aa.length cV) aa HSr.out HP1.out hz1 (by omega))
    have haz := bsA_size (attrsL aa)
    have hu1 : (t ++ (⟨#[109, 61]⟩ : ByteArray)).size = t.size + 2 := by rw [ByteArray.size_append]; rfl
    have hu2 : (t ++ (⟨#[109, 61]⟩ : ByteArray) ++ al).size = t.size + 2 + al.size := by rw [ByteArray.size_append, hu1]
    have hu3 : (t ++ (⟨#[109, 61]⟩ : ByteArray) ++ al ++ ⟨#[13, 10]⟩).size = t.size + 2 + al.size + 2 := by rw [ByteArray.size_append, hu2]; rfl
    by_cases h0 : ac.size = 0
    · have he := isEmpty_yes h0
      have hu4 : (t ++ (⟨#[109, 61]⟩ : ByteArray) ++ al ++ ⟨#[13, 10]⟩ ++ bsA (attrsL aa)).size = t.size + 2 + al.size + 2 + (attrsL aa).length := by rw [ByteArray.size_append, hu3, haz]
      have HX := Lib.hid (show (t ++ (⟨#[109, 61]⟩ : ByteArray) ++ al ++ ⟨#[13, 10]⟩ ++ bsA (attrsL aa)).data.toList = headS x ++ attrsL x.attrs ++ partsL ((partsOf pv).take (k + 1)) by
        rw [HTK.out]; simp only [app_list, HT.out, bsA_list]; unfold partL connL; dsimp only; rw [if_pos h0]; simp)
      rw [if_pos h0] at hb1
      clear h0
      go_wp2_with fail
      go_at_call 39
      refine HC.out.mono ?_
      rintro e w2 ⟨rfl, rfl⟩
      go_wp2
      go_roundw
      case rel => exact ⟨k + 1, _, by omega, by go_num, rfl, by rw [hu4]; omega, HX, HSr⟩
      case measure => simp [intOf]; omega
    · have he := isEmpty_no h0
      have hv1 : (t ++ (⟨#[109, 61]⟩ : ByteArray) ++ al ++ ⟨#[13, 10]⟩ ++ ⟨#[99, 61]⟩).size = t.size + 2 + al.size + 2 + 2 := by rw [ByteArray.size_append, hu3]; rfl
      have hv2 : (t ++ (⟨#[109, 61]⟩ : ByteArray) ++ al ++ ⟨#[13, 10]⟩ ++ ⟨#[99, 61]⟩ ++ ac).size = t.size + 2 + al.size + 2 + 2 + ac.size := by rw [ByteArray.size_append, hv1]
      have hv3 : (t ++ (⟨#[109, 61]⟩ : ByteArray) ++ al ++ ⟨#[13, 10]⟩ ++ ⟨#[99, 61]⟩ ++ ac ++ ⟨#[13, 10]⟩).size = t.size + 2 + al.size + 2 + 2 + ac.size + 2 := by rw [ByteArray.size_append, hv2]; rfl
      have hu4 : (t ++ (⟨#[109, 61]⟩ : ByteArray) ++ al ++ ⟨#[13, 10]⟩ ++ ⟨#[99, 61]⟩ ++ ac ++ ⟨#[13, 10]⟩ ++ bsA (attrsL aa)).size = t.size + 2 + al.size + 2 + 2 + ac.size + 2 + (attrsL aa).length := by rw [ByteArray.size_append, hv3, haz]
      have HX := Lib.hid (show (t ++ (⟨#[109, 61]⟩ : ByteArray) ++ al ++ ⟨#[13, 10]⟩ ++ ⟨#[99, 61]⟩ ++ ac ++ ⟨#[13, 10]⟩ ++ bsA (attrsL aa)).data.toList = headS x ++ attrsL x.attrs ++ partsL ((partsOf pv).take (k + 1)) by
        rw [HTK.out]; simp only [app_list, HT.out, bsA_list]; unfold partL connL; dsimp only; rw [if_neg h0]; simp)
      rw [if_neg h0] at hb1
      clear h0
      go_wp2_with fail
      go_at_call 39
      refine HC.out.mono ?_
      rintro e w2 ⟨rfl, rfl⟩
      go_wp2
      go_roundw
      case rel => exact ⟨k + 1, _, by omega, by go_num, rfl, by rw [hu4]; omega, HX, HSr⟩
      case measure => simp [intOf]; omega
end Go.Proofs.Ytpbbincgddmbiaa
