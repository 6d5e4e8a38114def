/- sdp.Print. -/
import Derived.Test.YtpbbincgddmbiaaSdS
namespace Go.Proofs.Ytpbbincgddmbiaa
open Go.RowKit
set_option linter.unusedSimpArgs false

structure SizedPa (p : Pa) : Prop where
  line : p.line.size ≤ maxLen
  conn : p.conn.size ≤ maxLen
  attrs : Shorts p.attrs
  few : p.attrs.length ≤ 140737488351232
/-- a description that memory holds -/
structure Sized (x : Ss) : Prop where
  origin : x.origin.size ≤ maxLen
  name : x.name.size ≤ maxLen
  time : x.time.size ≤ maxLen
  attrs : Shorts x.attrs
  few : x.attrs.length ≤ 140737488351232
  parts : ∀ p ∈ x.parts, SizedPa p
  some : x.parts.length ≤ 140737488351232
def headB (x : Ss) : Bool := valB x.origin 200 && (valB x.name 200 && (valB x.time 200 && (fitsB x.attrs && decide (x.parts.length ≤ 8))))
theorem goodS_two (x : Ss) : goodS x = (headB x && x.parts.all goodPa) := rfl
def printR (x : Ss) : ByteArray × Int := if goodS x = true ∧ ¬ 8192 < (printS x).length then (bsA (printS x), 0) else (⟨#[]⟩, 1)
theorem printR_bad {x : Ss} (h : goodS x = false) : printR x = (⟨#[]⟩, 1) := by
  unfold printR
  rw [if_neg (by rw [h]; rintro ⟨h, _⟩; cases h)]
theorem partL_len {p : Pa} (h : goodPa p = true) : (partL p).length ≤ 20000 := by
  obtain ⟨h1, h2, h3, h4⟩ := goodPa_parts h
  have h5 := val_short h1
  have h6 := attrsL_len _ h4
  have h7 : (connL p.conn).length ≤ 204 := by
    unfold connL
    split
    · exact Nat.zero_le _
    · rename_i h0
      have := val_short (h2.resolve_left h0)
      simp only [List.length_cons, List.length_append, List.length_nil, ls_len]; omega
  unfold partL
  simp only [List.length_cons, List.length_append, List.length_nil, ls_len]
  omega
theorem partsL_len : ∀ (l : List Pa), l.all goodPa = true → (partsL l).length ≤ l.length * 20000
  | [], _ => Nat.zero_le _
  | a :: l, hg => by
    have hg2 : goodPa a = true ∧ l.all goodPa = true := by simpa using hg
    have h1 := partL_len hg2.1
    have h2 := partsL_len l hg2.2
    simp only [partsL, List.length_append, List.length_cons]
    omega
theorem all_take {α : Type} {f : α → Bool} {l : List α} (h : l.all f = true) (k : Nat) : (l.take k).all f = true := by
  rw [List.all_eq_true] at h ⊢
  exact fun a ha => h a (List.mem_of_mem_take ha)
set_option maxRecDepth 8000 in
set_option maxHeartbeats 8000000 in
theorem printP (I : Img) (M : List Res) (w : World) (vA vP : Value) (x : Ss) (pv : List (Pa × Value)) (hst : St I M w) (ha : Ses I vA vP pv x) (hz : Sized x) :
    Calls Try.prog 14 #[.agg (head5 x vA vP)] w (Ret I (fun v J M' => I = J ∧ v = .tuple #[.string (printR x).1, .int .i64 (printR x).2] ∧ M' = M)) := by
  have HA := Lib.hid ha
  have HZ := Lib.hid hz
  have hpl : pv.length = x.parts.length := by rw [← ha.same]; simp [partsOf]
  obtain ⟨aA, cA, rfl, _⟩ := ha.attrs
  obtain ⟨aP, cP, rfl, _⟩ := ha.parts
  have hs := hst.alloc 33 (head5 x (.slice aA x.attrs.length cA) (.slice aP pv.length cP))
  obtain ⟨b0, hb0⟩ : ∃ b, b = w.heap.size := ⟨_, rfl⟩
  rw [← hb0] at hs
  have hpm : pv.length ≤ 140737488351232 := by have := hz.some; omega
  have HPL := Lib.hid hpl
  clear hst ha hz hpl
  go_enter Try.func14, Try.ntmps14
  go_upto_region 1 with fail
  rw [← hb0]
  clear hb0
  generalize World.alloc _ _ = W0 at hs ⊢
  obtain ⟨hc, hf, hl⟩ := Blk.all hs.head
  have HS := Lib.hid hs
  clear hs
  go_cut [4] (fun ok wx => ok = .bool (headB x) ∧ Hid (St I (bk b0 33 (head5 x (.slice aA x.attrs.length cA) (.slice aP pv.length cP)) :: M) wx))
  case first =>
    cases e1 : valB x.origin 200
    · have HE := Lib.hid (show headB x = false by unfold headB; rw [e1]; rfl)
      go_wp2_with (first | (go_at_call 21; refine (valueP2 x.origin HS.out HZ.out.origin).mono ?_; rw [e1]; rintro e w1 ⟨rfl, hs1⟩; obtain ⟨hc1, hf1, hl1⟩ := Blk.all hs1.head; have HS1 := Lib.hid hs1; clear hs1 hf1 hl1 HS))
      go_meet
      exact ⟨by rw [HE.out], HS1⟩
    cases e2 : valB x.name 200
    · have HE := Lib.hid (show headB x = false by unfold headB; rw [e1, e2]; rfl)
      go_wp2_with (first | (go_at_call 21; refine (valueP2 x.origin HS.out HZ.out.origin).mono ?_; rw [e1]; rintro e w1 ⟨rfl, hs1⟩; obtain ⟨hc1, hf1, hl1⟩ := Blk.all hs1.head; have HS1 := Lib.hid hs1; clear hs1 hf1 hl1 HS) | (go_at_call 21; refine (valueP2 x.name HS1.out HZ.out.name).mono ?_; rw [e2]; rintro e w2 ⟨rfl, hs2⟩; obtain ⟨hc2, hf2, hl2⟩ := Blk.all hs2.head; have HS2 := Lib.hid hs2; clear hs2 hf2 hl2 HS1))
      go_meet
      exact ⟨by rw [HE.out], HS2⟩
    cases e3 : valB x.time 200
    · have HE := Lib.hid (show headB x = false by unfold headB; rw [e1, e2, e3]; rfl)
      go_wp2_with (first | (go_at_call 21; refine (valueP2 x.origin HS.out HZ.out.origin).mono ?_; rw [e1]; rintro e w1 ⟨rfl, hs1⟩; obtain ⟨hc1, hf1, hl1⟩ := Blk.all hs1.head; have HS1 := Lib.hid hs1; clear hs1 hf1 hl1 HS) | (go_at_call 21; refine (valueP2 x.name HS1.out HZ.out.name).mono ?_; rw [e2]; rintro e w2 ⟨rfl, hs2⟩; obtain ⟨hc2, hf2, hl2⟩ := Blk.all hs2.head; have HS2 := Lib.hid hs2; clear hs2 hf2 hl2 HS1) | (go_at_call 21; refine (valueP2 x.time HS2.out HZ.out.time).mono ?_; rw [e3]; rintro e w3 ⟨rfl, hs3⟩; obtain ⟨hc3, hf3, hl3⟩ := Blk.all hs3.head; have HS3 := Lib.hid hs3; clear hs3 hf3 hl3 HS2))
      go_meet
      exact ⟨by rw [HE.out], HS3⟩
    cases e4 : fitsB x.attrs
    · have HE := Lib.hid (show headB x = false by unfold headB; rw [e1, e2, e3, e4]; rfl)
      go_wp2_with (first | (go_at_call 21; refine (valueP2 x.origin HS.out HZ.out.origin).mono ?_; rw [e1]; rintro e w1 ⟨rfl, hs1⟩; obtain ⟨hc1, hf1, hl1⟩ := Blk.all hs1.head; have HS1 := Lib.hid hs1; clear hs1 hf1 hl1 HS) | (go_at_call 21; refine (valueP2 x.name HS1.out HZ.out.name).mono ?_; rw [e2]; rintro e w2 ⟨rfl, hs2⟩; obtain ⟨hc2, hf2, hl2⟩ := Blk.all hs2.head; have HS2 := Lib.hid hs2; clear hs2 hf2 hl2 HS1) | (go_at_call 21; refine (valueP2 x.time HS2.out HZ.out.time).mono ?_; rw [e3]; rintro e w3 ⟨rfl, hs3⟩; obtain ⟨hc3, hf3, hl3⟩ := Blk.all hs3.head; have HS3 := Lib.hid hs3; clear hs3 hf3 hl3 HS2) | (go_at_call 27; refine (fitsP I _ _ _ x.attrs HS3.out HA.out.attrs HZ.out.few HZ.out.attrs).mono ?_; rw [e4]; rintro e w4 ⟨rfl, hs4⟩; obtain ⟨hc4, hf4, hl4⟩ := Blk.all hs4.head; have HS4 := Lib.hid hs4; clear hs4 hf4 hl4 HS3))
      go_meet
      exact ⟨by rw [HE.out], HS4⟩
    by_cases h5 : x.parts.length ≤ 8
    · have HE := Lib.hid (show headB x = true by unfold headB; rw [e1, e2, e3, e4, decide_eq_true h5]; rfl)
      have h5' : (pv.length : Int) ≤ 8 := by have := HPL.out; omega
      clear h5
      go_wp2_with (first | (go_at_call 21; refine (valueP2 x.origin HS.out HZ.out.origin).mono ?_; rw [e1]; rintro e w1 ⟨rfl, hs1⟩; obtain ⟨hc1, hf1, hl1⟩ := Blk.all hs1.head; have HS1 := Lib.hid hs1; clear hs1 hf1 hl1 HS) | (go_at_call 21; refine (valueP2 x.name HS1.out HZ.out.name).mono ?_; rw [e2]; rintro e w2 ⟨rfl, hs2⟩; obtain ⟨hc2, hf2, hl2⟩ := Blk.all hs2.head; have HS2 := Lib.hid hs2; clear hs2 hf2 hl2 HS1) | (go_at_call 21; refine (valueP2 x.time HS2.out HZ.out.time).mono ?_; rw [e3]; rintro e w3 ⟨rfl, hs3⟩; obtain ⟨hc3, hf3, hl3⟩ := Blk.all hs3.head; have HS3 := Lib.hid hs3; clear hs3 hf3 hl3 HS2) | (go_at_call 27; refine (fitsP I _ _ _ x.attrs HS3.out HA.out.attrs HZ.out.few HZ.out.attrs).mono ?_; rw [e4]; rintro e w4 ⟨rfl, hs4⟩; obtain ⟨hc4, hf4, hl4⟩ := Blk.all hs4.head; have HS4 := Lib.hid hs4; clear hs4 hf4 hl4 HS3))
      go_meet
      exact ⟨by rw [HE.out], HS4⟩
    · have HE := Lib.hid (show headB x = false by unfold headB; rw [e1, e2, e3, e4, decide_eq_false h5]; rfl)
      have h5' : (8 : Int) < pv.length := by have := HPL.out; omega
      clear h5
      go_wp2_with (first | (go_at_call 21; refine (valueP2 x.origin HS.out HZ.out.origin).mono ?_; rw [e1]; rintro e w1 ⟨rfl, hs1⟩; obtain ⟨hc1, hf1, hl1⟩ := Blk.all hs1.head; have HS1 := Lib.hid hs1; clear hs1 hf1 hl1 HS) | (go_at_call 21; refine (valueP2 x.name HS1.out HZ.out.name).mono ?_; rw [e2]; rintro e w2 ⟨rfl, hs2⟩; obtain ⟨hc2, hf2, hl2⟩ := Blk.all hs2.head; have HS2 := Lib.hid hs2; clear hs2 hf2 hl2 HS1) | (go_at_call 21; refine (valueP2 x.time HS2.out HZ.out.time).mono ?_; rw [e3]; rintro e w3 ⟨rfl, hs3⟩; obtain ⟨hc3, hf3, hl3⟩ := Blk.all hs3.head; have HS3 := Lib.hid hs3; clear hs3 hf3 hl3 HS2) | (go_at_call 27; refine (fitsP I _ _ _ x.attrs HS3.out HA.out.attrs HZ.out.few HZ.out.attrs).mono ?_; rw [e4]; rintro e w4 ⟨rfl, hs4⟩; obtain ⟨hc4, hf4, hl4⟩ := Blk.all hs4.head; have HS4 := Lib.hid hs4; clear hs4 hf4 hl4 HS3))
      go_meet
      exact ⟨by rw [HE.out, decide_eq_false (by omega)], HS4⟩
  case rest =>
  obtain ⟨rfl, HS⟩ := hcut
  clear hc hf hl
  obtain ⟨hc, hf, hl⟩ := Blk.all HS.out.head
  go_upto_region 3 with fail
  clear hc hf hl
  go_loopw [4, 37] (fun ok iv wr => ∃ (k : Nat) (b : Bool), k ≤ pv.length ∧ iv = .int .i64 k ∧ ok = .bool b ∧ Hid ((headB x && ((partsOf pv).take k).all goodPa) = b) ∧ Hid (St I (bk b0 33 (head5 x (.slice aA x.attrs.length cA) (.slice aP pv.length cP)) :: M) wr)) (fun _ iv _ => pv.length - (intOf iv).toNat)
  case atStart => exact ⟨0, headB x, by omega, rfl, rfl, Lib.hid (Bool.and_true _), HS⟩
  case round =>
    obtain ⟨k, b, hk, rfl, rfl, HB, HSr⟩ := hrel
    clear HS
    by_cases hlt : k < pv.length
    · obtain ⟨g, o, c', e1, hc⟩ := HA.out.parts.at (by omega)
      obtain ⟨e1, -, e3⟩ := Value.slice.inj e1
      subst e1 e3
      obtain ⟨y0, y1, y2⟩ := hc _ _ HSr.out k hlt
      have HTK := Lib.hid (show ((partsOf pv).take (k + 1)).all goodPa = (((partsOf pv).take k).all goodPa && goodPa pv[k].1) by
        rw [List.take_succ_eq_append_getElem (by simpa [partsOf] using hlt), List.all_append]
        simp [partsOf])
      have HP1 := Lib.hid (HA.out.each pv[k] (List.getElem_mem hlt))
      have hz1 := HZ.out.parts pv[k].1 (by rw [← HA.out.same]; exact List.mem_map_of_mem (List.getElem_mem hlt))
      obtain ⟨a, hae⟩ : ∃ a, a = pv[k] := ⟨_, rfl⟩
      rw [← hae] at y0 y1 y2 HTK HP1 hz1
      clear hc hae
      obtain ⟨⟨al, ac, aa⟩, av⟩ := a
      dsimp only at y0 y1 y2 HTK HP1 hz1
      obtain ⟨aV, cV, rfl, _⟩ := HP1.out
      have HZ1 := Lib.hid hz1
      have hs := HSr.out.alloc 66 #[.string al, .string ac, .slice aV aa.length cV]
      obtain ⟨hq, fq, lq⟩ := Blk.all hs.head
      have HS := Lib.hid hs
      clear hs hz1 HSr
      cases b
      · go_wp2
        go_roundw
        case rel => exact ⟨k + 1, false, by omega, by go_num, rfl, Lib.hid (by rw [HTK.out, ← Bool.and_assoc, HB.out]; rfl), Lib.hid HS.out.drop⟩
        case measure => simp [intOf]; omega
      cases e1 : valB al 200
      · have HG := Lib.hid (show goodPa ⟨al, ac, aa⟩ = false by unfold goodPa; rw [e1]; rfl)
        go_wp2_with (go_at_call 21; refine (valueP2 al HS.out HZ1.out.line).mono ?_; rw [e1]; rintro e w1 ⟨rfl, hs1⟩; have HS1 := Lib.hid hs1; clear hs1 HS)
        go_roundw
        case rel => exact ⟨k + 1, false, by omega, by go_num, rfl, Lib.hid (by rw [HTK.out, ← Bool.and_assoc, HB.out, HG.out]; rfl), Lib.hid HS1.out.drop⟩
        case measure => simp [intOf]; omega
      by_cases h0 : ac.size = 0
      · have he := isEmpty_yes h0
        obtain ⟨f, hf⟩ : ∃ f, fitsB aa = f := ⟨_, rfl⟩
        have HG := Lib.hid (show goodPa ⟨al, ac, aa⟩ = f by unfold goodPa; rw [e1, hf]; dsimp only; rw [decide_eq_true h0]; rfl)
        go_wp2_with fail
        go_at_call 21
        refine (valueP2 al HS.out HZ1.out.line).mono ?_
        rw [e1]
        rintro e w1 ⟨rfl, hs1⟩
        clear hq fq lq
        obtain ⟨hq, fq, lq⟩ := Blk.all hs1.head
        have HS1 := Lib.hid hs1
        clear hs1 HS
        go_wp2_with fail
        go_at_call 27
        refine (fitsP I _ _ _ aa HS1.out HP1.out HZ1.out.few HZ1.out.attrs).mono ?_
        rw [hf]
        rintro e w3 ⟨rfl, hs3⟩
        have HS3 := Lib.hid hs3
        clear hs3 HS1
        go_wp2
        go_roundw
        case rel => exact ⟨k + 1, f, by omega, by go_num, rfl, Lib.hid (by rw [HTK.out, ← Bool.and_assoc, HB.out, HG.out]; rfl), Lib.hid HS3.out.drop⟩
        case measure => simp [intOf]; omega
      have he := isEmpty_no h0
      have H0 := Lib.hid h0
      clear h0
      cases e2 : valB ac 200
      · have HG := Lib.hid (show goodPa ⟨al, ac, aa⟩ = false by unfold goodPa; rw [e1, e2]; dsimp only; rw [decide_eq_false H0.out]; rfl)
        go_wp2_with fail
        go_at_call 21
        refine (valueP2 al HS.out HZ1.out.line).mono ?_
        rw [e1]
        rintro e w1 ⟨rfl, hs1⟩
        clear hq fq lq
        obtain ⟨hq, fq, lq⟩ := Blk.all hs1.head
        have HS1 := Lib.hid hs1
        clear hs1 HS
        go_wp2_with fail
        go_at_call 21
        refine (valueP2 ac HS1.out HZ1.out.conn).mono ?_
        rw [e2]
        rintro e w2 ⟨rfl, hs2⟩
        clear hq fq lq
        obtain ⟨hq, fq, lq⟩ := Blk.all hs2.head
        have HS2 := Lib.hid hs2
        clear hs2 HS1
        go_wp2
        go_roundw
        case rel => exact ⟨k + 1, false, by omega, by go_num, rfl, Lib.hid (by rw [HTK.out, ← Bool.and_assoc, HB.out, HG.out]; rfl), Lib.hid HS2.out.drop⟩
        case measure => simp [intOf]; omega
      · obtain ⟨f, hf⟩ : ∃ f, fitsB aa = f := ⟨_, rfl⟩
        have HG := Lib.hid (show goodPa ⟨al, ac, aa⟩ = f by unfold goodPa; rw [e1, e2, hf]; dsimp only; rw [decide_eq_false H0.out]; rfl)
        go_wp2_with fail
        go_at_call 21
        refine (valueP2 al HS.out HZ1.out.line).mono ?_
        rw [e1]
        rintro e w1 ⟨rfl, hs1⟩
        clear hq fq lq
        obtain ⟨hq, fq, lq⟩ := Blk.all hs1.head
        have HS1 := Lib.hid hs1
        clear hs1 HS
        go_wp2_with fail
        go_at_call 21
        refine (valueP2 ac HS1.out HZ1.out.conn).mono ?_
        rw [e2]
        rintro e w2 ⟨rfl, hs2⟩
        clear hq fq lq
        obtain ⟨hq, fq, lq⟩ := Blk.all hs2.head
        have HS2 := Lib.hid hs2
        clear hs2 HS1
        go_wp2_with fail
        go_at_call 27
        refine (fitsP I _ _ _ aa HS2.out HP1.out HZ1.out.few HZ1.out.attrs).mono ?_
        rw [hf]
        rintro e w3 ⟨rfl, hs3⟩
        have HS3 := Lib.hid hs3
        clear hs3 HS2
        go_wp2
        go_roundw
        case rel => exact ⟨k + 1, f, by omega, by go_num, rfl, Lib.hid (by rw [HTK.out, ← Bool.and_assoc, HB.out, HG.out]; rfl), Lib.hid HS3.out.drop⟩
        case measure => simp [intOf]; omega
    have hke : k = pv.length := by omega
    have HGS := Lib.hid (show goodS x = b by rw [goodS_two, ← HB.out, hke, List.take_of_length_le (by simp [partsOf]), HA.out.same])
    have hgt : (pv.length : Int) ≤ k := by omega
    clear hlt hke HB
    cases b
    · have HR := Lib.hid (printR_bad HGS.out)
      go_wp2
      go_returns
      exact Ret.mk (.refl I) HSr.out.drop ⟨rfl, by rw [HR.out]; rfl, rfl⟩
    obtain ⟨g1, g2, g3, g4, g5, g6, g7⟩ := goodS_parts HGS.out
    have hpv8 : pv.length ≤ 8 := by have := HPL.out; omega
    have G7 := Lib.hid g7
    have hz1 := val_short g1
    have hz2 := val_short g2
    have hz3 := val_short g3
    have hu1 : ((⟨#[118, 61, 48, 13, 10, 111, 61]⟩ : ByteArray) ++ x.origin).size = 7 + x.origin.size := by rw [ByteArray.size_append]; rfl
    have hu2 : ((⟨#[118, 61, 48, 13, 10, 111, 61]⟩ : ByteArray) ++ x.origin ++ ⟨#[13, 10]⟩).size = 9 + x.origin.size := by rw [ByteArray.size_append, hu1]; show 7 + x.origin.size + 2 = _; omega
    have hu3 : ((⟨#[118, 61, 48, 13, 10, 111, 61]⟩ : ByteArray) ++ x.origin ++ ⟨#[13, 10]⟩ ++ ⟨#[115, 61]⟩).size = 11 + x.origin.size := by rw [ByteArray.size_append, hu2]; show 9 + x.origin.size + 2 = _; omega
    have hu4 : ((⟨#[118, 61, 48, 13, 10, 111, 61]⟩ : ByteArray) ++ x.origin ++ ⟨#[13, 10]⟩ ++ ⟨#[115, 61]⟩ ++ x.name).size = 11 + x.origin.size + x.name.size := by rw [ByteArray.size_append, hu3]
    have hu5 : ((⟨#[118, 61, 48, 13, 10, 111, 61]⟩ : ByteArray) ++ x.origin ++ ⟨#[13, 10]⟩ ++ ⟨#[115, 61]⟩ ++ x.name ++ ⟨#[13, 10]⟩).size = 13 + x.origin.size + x.name.size := by rw [ByteArray.size_append, hu4]; show 11 + x.origin.size + x.name.size + 2 = _; omega
    have hu6 : ((⟨#[118, 61, 48, 13, 10, 111, 61]⟩ : ByteArray) ++ x.origin ++ ⟨#[13, 10]⟩ ++ ⟨#[115, 61]⟩ ++ x.name ++ ⟨#[13, 10]⟩ ++ ⟨#[116, 61]⟩).size = 15 + x.origin.size + x.name.size := by rw [ByteArray.size_append, hu5]; show 13 + x.origin.size + x.name.size + 2 = _; omega
    have hu7 : ((⟨#[118, 61, 48, 13, 10, 111, 61]⟩ : ByteArray) ++ x.origin ++ ⟨#[13, 10]⟩ ++ ⟨#[115, 61]⟩ ++ x.name ++ ⟨#[13, 10]⟩ ++ ⟨#[116, 61]⟩ ++ x.time).size = 15 + x.origin.size + x.name.size + x.time.size := by rw [ByteArray.size_append, hu6]
    have hu8 : ((⟨#[118, 61, 48, 13, 10, 111, 61]⟩ : ByteArray) ++ x.origin ++ ⟨#[13, 10]⟩ ++ ⟨#[115, 61]⟩ ++ x.name ++ ⟨#[13, 10]⟩ ++ ⟨#[116, 61]⟩ ++ x.time ++ ⟨#[13, 10]⟩).size = 17 + x.origin.size + x.name.size + x.time.size := by rw [ByteArray.size_append, hu7]; show 15 + x.origin.size + x.name.size + x.time.size + 2 = _; omega
    have HHD := Lib.hid (show [] ++ ((⟨#[118, 61, 48, 13, 10, 111, 61]⟩ : ByteArray) ++ x.origin ++ ⟨#[13, 10]⟩ ++ ⟨#[115, 61]⟩ ++ x.name ++ ⟨#[13, 10]⟩ ++ ⟨#[116, 61]⟩ ++ x.time ++ ⟨#[13, 10]⟩).data.toList = headS x by
      simp only [app_list, headS, ls]
      simp)
    have hhl : (headS x).length ≤ 700 := by
      rw [← HHD.out, List.nil_append, Array.length_toList]
      show ByteArray.size _ ≤ 700
      rw [hu8]
      omega
    have hal := attrsL_len _ g5
    obtain ⟨b, hbE⟩ : ∃ b, b = wr.heap.size := ⟨_, rfl⟩
    have hs0 := (HSr.out.alloc 75 #[.pointer none, .slice none 0 0]).nil (e := 5) (size := 1)
    rw [← hbE] at hs0
    have hb1 : Bld b b [] (bk b0 33 (head5 x (.slice aA x.attrs.length cA) (.slice aP pv.length cP)) :: M) (bk b 75 #[.pointer none, .slice none 0 0] :: row 5 1 (.slice none 0 0) 0 [] :: bk b0 33 (head5 x (.slice aA x.attrs.length cA) (.slice aP pv.length cP)) :: M) := ⟨none, .slice none 0 0, .inl rfl, (fun g hg => by cases hg), rfl⟩
    obtain ⟨hc, hf, hl⟩ := Blk.all (show Blk _ b0 33 _ from hs0.at 2 rfl)
    have HC1 := Lib.hid (writeC I (bk b0 33 (head5 x (.slice aA x.attrs.length cA) (.slice aP pv.length cP)) :: M) _ _ b b [] _ hs0.swap1 hb1 (Nat.le_refl _) (by show 0 + _ ≤ _; rw [hu8]; omega))
    clear hs0 hb1 g1 g2 g3 g7
    clear HS
    go_upto_region 10 with fail
    rw [← hbE]
    have HBE := Lib.hid hbE
    clear hbE
    go_wp2_with fail
    go_at_call 28
    refine HC1.out.mono ?_
    rintro e w2 ⟨_, _, N2, rfl, _, hs2, rfl, hb2⟩
    rw [HHD.out] at hb2
    clear HC1 hc hf hl hu1 hu2 hu3 hu4 hu5 hu6 hu7 hu8
    obtain ⟨hc, hf, hl⟩ := Blk.all (hb2.rest hs2).head
    have HC2 := Lib.hid (writeAP I _ N2 w2 b b (headS x) _ x.attrs hs2 hb2 (Nat.le_refl _) HA.out.attrs g4 g5 (by omega))
    clear hs2 hb2
    go_wp2_with fail
    go_at_call 29
    refine HC2.out.mono ?_
    rintro e w3 ⟨_, _, N3, rfl, _, hs3, rfl, hb3⟩
    clear HC2 hc hf hl
    obtain ⟨hc, hf, hl⟩ := Blk.all (hb3.rest hs3).head
    have HS := Lib.hid (show ∃ N, St I N w3 ∧ Bld b b (headS x ++ attrsL x.attrs) (bk b0 33 (head5 x (.slice aA x.attrs.length cA) (.slice aP pv.length cP)) :: M) N from ⟨N3, hs3, hb3⟩)
    clear hs3 hb3
    go_upto_region 13 with fail
    clear hc hf hl
    have H0 := Lib.hid (show ∃ w0, St I (bk b0 33 (head5 x (.slice aA x.attrs.length cA) (.slice aP pv.length cP)) :: M) w0 ∧ b = w0.heap.size from ⟨_, HSr.out, HBE.out⟩)
    clear HSr hgt
    go_loopw [86] (fun iv wr' => ∃ j : Nat, j ≤ pv.length ∧ iv = .int .i64 j ∧ Hid (∃ N, St I N wr' ∧ Bld b b (headS x ++ attrsL x.attrs ++ partsL ((partsOf pv).take j)) (bk b0 33 (head5 x (.slice aA x.attrs.length cA) (.slice aP pv.length cP)) :: M) N)) (fun iv _ => pv.length - (intOf iv).toNat)
    case atStart => exact ⟨0, by omega, rfl, by simp only [List.take_zero, partsL, List.append_nil]; exact HS⟩
    case round =>
      obtain ⟨j, hj, rfl, HSr⟩ := hrel
      clear HS
      by_cases hlt : j < pv.length
      rotate_left
      · have hje : j = pv.length := by omega
        have hgt : (pv.length : Int) ≤ j := by omega
        obtain ⟨N, hs, hb⟩ := HSr.out
        rw [hje, List.take_of_length_le (by simp [partsOf]), HA.out.same, List.append_assoc] at hb
        have hb' : Bld b b (printS x) (bk b0 33 (head5 x (.slice aA x.attrs.length cA) (.slice aP pv.length cP)) :: M) N := hb
        have hlen2 : (printS x).length ≤ 1000000 := by
          have := partsL_len _ G7.out
          have h2 := HPL.out
          unfold printS
          rw [List.length_append, List.length_append]
          omega
        have HC1 := Lib.hid (lenC I _ N _ b b (printS x) hs hb' (Nat.le_refl _))
        obtain ⟨w0, h0, hB⟩ := H0.out
        have HC2 := Lib.hid (stringC I (bk b0 33 (head5 x (.slice aA x.attrs.length cA) (.slice aP pv.length cP)) :: M) N w0 _ b (printS x) h0 hs (by rw [← hB]; exact hb') (by omega))
        have HS := Lib.hid (hb'.rest hs)
        clear hs hb hb' hje hlt HSr hB h0
        by_cases h8 : 8192 < (printS x).length
        · have HR := Lib.hid (show printR x = (⟨#[]⟩, 1) by unfold printR; rw [if_neg (fun h => h.2 h8)])
          have h8' : (8192 : Int) < (printS x).length := by omega
          clear h8
          go_wp2_with fail
          go_at_call 30
          refine HC1.out.mono ?_
          rintro e w4 ⟨rfl, rfl⟩
          go_wp2
          go_returns
          exact Ret.mk (.refl I) HS.out.drop ⟨rfl, by rw [HR.out]; rfl, rfl⟩
        · have HR := Lib.hid (show printR x = (bsA (printS x), 0) by unfold printR; rw [if_pos ⟨HGS.out, h8⟩])
          have H8 := Lib.hid (show ((printS x).length : Int) ≤ 8192 by omega)
          obtain ⟨L, hL⟩ : ∃ L, L = (printS x).length := ⟨_, rfl⟩
          rw [← hL] at H8 HC1
          clear h8 hL hlen2
          go_wp2_with fail
          go_at_call 30
          refine HC1.out.mono ?_
          rintro e w4 ⟨rfl, rfl⟩
          have h8 := H8.out
          go_wp2_with fail
          go_at_call 31
          refine HC2.out.mono ?_
          rintro e w5 ⟨_, _, _, rfl, _, hs5, rfl, rfl, rfl⟩
          have HS5 := Lib.hid hs5
          clear hs5
          go_wp2
          go_returns
          exact Ret.mk (.refl I) HS5.out.drop ⟨rfl, by rw [HR.out]; rfl, rfl⟩
      obtain ⟨N, hs, hb⟩ := HSr.out
      obtain ⟨g, o, c', e1, hc⟩ := HA.out.parts.at (by omega)
      obtain ⟨e1, -, e3⟩ := Value.slice.inj e1
      subst e1 e3
      obtain ⟨y0, y1, y2⟩ := hc _ _ (hb.rest hs) j hlt
      have hlp : j < (partsOf pv).length := by simpa [partsOf] using hlt
      have hgo : goodPa pv[j].1 = true := List.all_eq_true.1 G7.out pv[j].1 (by rw [← HA.out.same]; exact List.mem_map_of_mem (List.getElem_mem hlt))
      have HTK := Lib.hid (show headS x ++ attrsL x.attrs ++ partsL ((partsOf pv).take (j + 1)) = headS x ++ attrsL x.attrs ++ partsL ((partsOf pv).take j) ++ partL pv[j].1 by
        rw [List.take_succ_eq_append_getElem hlp, partsL_snoc]
        simp [partsOf])
      have HP1 := Lib.hid (HA.out.each pv[j] (List.getElem_mem hlt))
      have hTl : (headS x ++ attrsL x.attrs ++ partsL ((partsOf pv).take j)).length ≤ 200000 := by
        have h1 := partsL_len _ (all_take (k := j) (show (partsOf pv).all goodPa = true by rw [HA.out.same]; exact G7.out))
        rw [List.length_take] at h1
        rw [List.length_append, List.length_append]
        omega
      obtain ⟨a, hae⟩ : ∃ a, a = pv[j] := ⟨_, rfl⟩
      rw [← hae] at y0 y1 y2 HTK HP1 hgo
      obtain ⟨T, hT⟩ : ∃ T, T = headS x ++ attrsL x.attrs ++ partsL ((partsOf pv).take j) := ⟨_, rfl⟩
      rw [← hT] at HTK hTl hb
      clear hc hae hT hlp
      obtain ⟨⟨al, ac, aa⟩, av⟩ := a
      dsimp only at y0 y1 y2 HTK HP1 hgo
      obtain ⟨aV, cV, rfl, _⟩ := HP1.out
      obtain ⟨p1, p2, p3, p4⟩ := goodPa_parts hgo
      have hl1 := val_short p1
      have hL := attrsL_len _ p4
      dsimp only at p1 p2 p3 p4 hl1 hL
      obtain ⟨q, hq⟩ : ∃ q, q = wr.heap.size := ⟨_, rfl⟩
      obtain ⟨N1, hb1, hs1⟩ := hb.add (hs.alloc 66 #[.string al, .string ac, .slice aV aa.length cV])
      rw [← hq] at hb1
      clear hs hb HSr
      go_upto_region 15 with fail
      rw [← hq]
      clear hq
      generalize World.alloc _ _ = W1 at hs1 ⊢
      obtain ⟨hc, hf, hl⟩ := Blk.all (hb1.rest hs1).head
      have hu1 : ((⟨#[109, 61]⟩ : ByteArray) ++ al).size = 2 + al.size := by rw [ByteArray.size_append]; rfl
      have hu2 : ((⟨#[109, 61]⟩ : ByteArray) ++ al ++ ⟨#[13, 10]⟩).size = 4 + al.size := by rw [ByteArray.size_append, hu1]; show 2 + al.size + 2 = _; omega
      have HC1 := Lib.hid (writeC I _ N1 _ b b T _ hs1 hb1 (Nat.le_refl _) (by rw [hu2]; omega))
      have HL1 := Lib.hid (show (T ++ ((⟨#[109, 61]⟩ : ByteArray) ++ al ++ ⟨#[13, 10]⟩).data.toList).length = T.length + (4 + al.size) by rw [List.length_append, ← hu2]; rfl)
      clear hs1 hb1 p1
      go_wp2_with fail
      go_at_call 28
      refine HC1.out.mono ?_
      rintro e w4 ⟨_, _, N2, rfl, _, hs2, rfl, hb2⟩
      clear hc hf hl HC1 hu1 hu2
      obtain ⟨hc, hf, hl⟩ := Blk.all (hb2.rest hs2).head
      have HS := Lib.hid (show St I N2 w4 ∧ _ from ⟨hs2, hb2⟩)
      clear hs2 hb2
      by_cases h0 : ac.size = 0
      · have he := isEmpty_yes h0
        have HX := Lib.hid (show T ++ ((⟨#[109, 61]⟩ : ByteArray) ++ al ++ ⟨#[13, 10]⟩).data.toList ++ attrsL aa = T ++ partL ⟨al, ac, aa⟩ by
          simp only [app_list]; unfold partL connL; dsimp only; rw [if_pos h0]; simp)
        have HC2 := Lib.hid (writeAP I _ N2 w4 b b _ _ aa HS.out.1 HS.out.2 (Nat.le_refl _) HP1.out p3 p4 (by rw [HL1.out]; omega))
        clear h0
        go_upto_region 18 with fail
        go_wp2_with fail
        go_at_call 29
        refine HC2.out.mono ?_
        rintro e w5 ⟨_, _, N3, rfl, _, hs3, rfl, hb3⟩
        clear hc hf hl HC2 he
        have HS3 := Lib.hid (hb3.less hs3)
        clear hs3 hb3
        go_wp2
        go_roundw
        case rel => exact ⟨j + 1, by omega, by go_num, Lib.hid (by obtain ⟨N5, h1, h2⟩ := HS3.out; refine ⟨N5, h2, ?_⟩; rw [HTK.out, ← HX.out]; exact h1)⟩
        case measure => simp [intOf]; omega
      · have he := isEmpty_no h0
        have hl2 := val_short (p2.resolve_left h0)
        have hu1 : ((⟨#[99, 61]⟩ : ByteArray) ++ ac).size = 2 + ac.size := by rw [ByteArray.size_append]; rfl
        have hu2 : ((⟨#[99, 61]⟩ : ByteArray) ++ ac ++ ⟨#[13, 10]⟩).size = 4 + ac.size := by rw [ByteArray.size_append, hu1]; show 2 + ac.size + 2 = _; omega
        have HX := Lib.hid (show T ++ ((⟨#[109, 61]⟩ : ByteArray) ++ al ++ ⟨#[13, 10]⟩).data.toList ++ ((⟨#[99, 61]⟩ : ByteArray) ++ ac ++ ⟨#[13, 10]⟩).data.toList ++ attrsL aa = T ++ partL ⟨al, ac, aa⟩ by
          simp only [app_list]; unfold partL connL; dsimp only; rw [if_neg h0]; simp)
        have HC2 := Lib.hid (writeC I _ N2 w4 b b _ (⟨#[99, 61]⟩ ++ ac ++ ⟨#[13, 10]⟩) HS.out.1 HS.out.2 (Nat.le_refl _) (by rw [HL1.out, hu2]; omega))
        have HL2 := Lib.hid (show (T ++ ((⟨#[109, 61]⟩ : ByteArray) ++ al ++ ⟨#[13, 10]⟩).data.toList ++ ((⟨#[99, 61]⟩ : ByteArray) ++ ac ++ ⟨#[13, 10]⟩).data.toList).length = T.length + (4 + al.size) + (4 + ac.size) by rw [List.length_append, HL1.out, ← hu2]; rfl)
        clear h0 p2
        go_upto_region 17 with fail
        go_wp2_with fail
        go_at_call 28
        refine HC2.out.mono ?_
        rintro e w5 ⟨_, _, N3, rfl, _, hs3, rfl, hb3⟩
        clear hc hf hl HC2 he HS
        obtain ⟨hc, hf, hl⟩ := Blk.all (hb3.rest hs3).head
        have HC3 := Lib.hid (writeAP I _ N3 w5 b b _ _ aa hs3 hb3 (Nat.le_refl _) HP1.out p3 p4 (by rw [HL2.out]; omega))
        clear hs3 hb3
        go_upto_region 18 with fail
        go_wp2_with fail
        go_at_call 29
        refine HC3.out.mono ?_
        rintro e w6 ⟨_, _, N4, rfl, _, hs4, rfl, hb4⟩
        clear hc hf hl HC3
        have HS4 := Lib.hid (hb4.less hs4)
        clear hs4 hb4
        go_wp2
        go_roundw
        case rel => exact ⟨j + 1, by omega, by go_num, Lib.hid (by obtain ⟨N5, h1, h2⟩ := HS4.out; refine ⟨N5, h2, ?_⟩; rw [HTK.out, ← HX.out]; exact h1)⟩
        case measure => simp [intOf]; omega
end Go.Proofs.Ytpbbincgddmbiaa
