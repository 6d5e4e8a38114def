/- sdp.write. -/
import Derived.Test.YtpbbincgddmbiaaSdR
namespace Go.Proofs.Ytpbbincgddmbiaa
open Go.RowKit
set_option linter.unusedSimpArgs false

theorem Bld.add {B b : Nat} {bs : List UInt8} {M N : List Res} {r : Res} {I : Img} {w : World} (hb : Bld B b bs M N) (h : St I (r :: N) w) : ∃ N', Bld B b bs (r :: M) N' ∧ St I N' w := by
  obtain ⟨p, v, h1, h2, rfl⟩ := hb
  exact ⟨_, ⟨p, v, h1, h2, rfl⟩, h.perm ((List.Perm.swap _ _ _).trans ((List.Perm.swap _ _ _).cons _))⟩
theorem Bld.less {B b : Nat} {bs : List UInt8} {M N : List Res} {r : Res} {I : Img} {w : World} (hb : Bld B b bs (r :: M) N) (h : St I N w) : ∃ N', Bld B b bs M N' ∧ St I N' w := by
  obtain ⟨p, v, h1, h2, rfl⟩ := hb
  exact ⟨_, ⟨p, v, h1, h2, rfl⟩, (h.perm (((List.Perm.swap _ _ _).cons _).trans (List.Perm.swap _ _ _))).drop⟩
theorem Bld.rest {B b : Nat} {bs : List UInt8} {M N : List Res} {I : Img} {w : World} (hb : Bld B b bs M N) (h : St I N w) : St I M w := by
  obtain ⟨p, v, h1, h2, rfl⟩ := hb
  exact h.drop.drop
theorem Bld.lt {B b : Nat} {bs : List UInt8} {M N : List Res} {I : Img} {w : World} (hb : Bld B b bs M N) (h : St I N w) : b < w.heap.size := by
  obtain ⟨p, v, h1, h2, rfl⟩ := hb
  exact Blk.lt (show Blk w b 75 _ from h.head)
theorem val_short {s : ByteArray} (h : valB s 200 = true) : s.size ≤ 200 := by
  unfold valB at h
  simp only [Bool.and_eq_true, decide_eq_true_eq] at h
  omega
theorem word_short {s : ByteArray} {lo : Int} (h : wordB s lo 32 = true) : s.size ≤ 32 := by
  unfold wordB at h
  simp only [Bool.and_eq_true, decide_eq_true_eq] at h
  omega
theorem good_short {n v : ByteArray} (h : goodB n v = true) : n.size ≤ 32 ∧ v.size ≤ 200 := by
  obtain ⟨h1, h2⟩ := good_parts h
  refine ⟨word_short h1, ?_⟩
  rcases h2 with h2 | h2
  · omega
  · exact val_short h2
theorem attrL_len {a : At} (h : goodB a.name a.value = true) : (attrL a).length ≤ 237 := by
  obtain ⟨h1, h2⟩ := good_short h
  unfold attrL valueL
  simp only [List.length_cons, List.length_append, List.length_nil, ls_len]
  split
  · simp; omega
  · simp only [List.length_cons, ls_len]; omega
theorem attrsL_len : ∀ (l : List At), goodAs l = true → (attrsL l).length ≤ l.length * 237
  | [], _ => Nat.zero_le _
  | a :: l, hg => by
    have hg2 : goodB a.name a.value = true ∧ goodAs l = true := by unfold goodAs at hg ⊢; simpa using hg
    have h1 := attrL_len hg2.1
    have h2 := attrsL_len l hg2.2
    simp only [attrsL, List.length_append, List.length_cons]
    omega
theorem goodAs_take {l : List At} (h : goodAs l = true) (k : Nat) : goodAs (l.take k) = true := by
  unfold goodAs at h ⊢
  rw [List.all_eq_true] at h ⊢
  exact fun a ha => h a (List.mem_of_mem_take ha)
theorem app_list (a b : ByteArray) : (a ++ b).data.toList = a.data.toList ++ b.data.toList := by simp [ByteArray.data_append]
set_option maxRecDepth 8000 in
set_option maxHeartbeats 4000000 in
theorem writeAP (I : Img) (M N : List Res) (w : World) (B b : Nat) (bs : List UInt8) (vA : Value) (l : List At) (hst : St I N w) (hb : Bld B b bs M N) (hB : B ≤ b) (ha : Attrs I vA l) (hl : l.length ≤ 64) (hg : goodAs l = true) (hlen : bs.length ≤ 1000000) :
    Calls Try.prog 29 #[.pointer (some ⟨b, 0, none⟩), vA] w (Ret I (fun _ J N' => I = J ∧ Bld B b (bs ++ attrsL l) M N')) := by
  have HA := Lib.hid ha
  obtain ⟨A, c, rfl, _⟩ := ha
  have HS := Lib.hid (show ∃ N, St I N w ∧ Bld B b bs M N from ⟨N, hst, hb⟩)
  have HG := Lib.hid hg
  have HB := Lib.hid hB
  clear hst hb hg hB
  go_enter Try.func29, Try.ntmps29
  go_upto_region 1 with fail
  go_loopw [8] (fun iv wr => ∃ k : Nat, k ≤ l.length ∧ iv = .int .i64 k ∧ Hid (∃ N, St I N wr ∧ Bld B b (bs ++ attrsL (l.take k)) M N)) (fun iv _ => l.length - (intOf iv).toNat)
  case atStart => exact ⟨0, by omega, rfl, by simp only [List.take_zero, attrsL, List.append_nil]; exact HS⟩
  case round =>
    obtain ⟨k, hk, rfl, HSr⟩ := hrel
    clear HS
    obtain ⟨N, hs, hb⟩ := HSr.out
    by_cases hlt : k < l.length
    rotate_left
    · have hke : k = l.length := by omega
      have hgt : (l.length : Int) ≤ k := by omega
      rw [hke, List.take_length] at hb
      have HE := Lib.hid (show St I N wr ∧ _ from ⟨hs, hb⟩)
      clear hs hb HSr hlt
      go_wp2
      go_returns
      exact Ret.mk (.refl I) HE.out.1 ⟨rfl, HE.out.2⟩
    obtain ⟨g, o, c', e1, hc⟩ := HA.out.at (by omega)
    obtain ⟨e1, -, e3⟩ := Value.slice.inj e1
    subst e1 e3
    obtain ⟨y0, y1⟩ := hc M _ (hb.rest hs) k hlt
    have hga : goodB l[k].name l[k].value = true := List.all_eq_true.1 HG.out l[k] (List.getElem_mem hlt)
    have hL := attrsL_len _ (goodAs_take HG.out k)
    rw [List.length_take, Nat.min_eq_left hk] at hL
    have HTK := Lib.hid (show bs ++ attrsL (l.take (k + 1)) = (bs ++ attrsL (l.take k)) ++ attrL l[k] by rw [List.take_succ_eq_append_getElem hlt, attrsL_snoc, List.append_assoc])
    obtain ⟨a, hae⟩ : ∃ a, a = l[k] := ⟨_, rfl⟩
    rw [← hae] at y0 y1 hga HTK
    clear hc hae
    obtain ⟨an, av⟩ := a
    dsimp only at y0 y1 hga
    obtain ⟨hz0, hz1⟩ := good_short hga
    obtain ⟨T, hT⟩ : ∃ T, T = bs ++ attrsL (l.take k) := ⟨_, rfl⟩
    rw [← hT] at HTK hb
    have hTl : T.length ≤ 1015168 := by rw [hT, List.length_append]; omega
    clear hT hL hga HSr
    obtain ⟨q, hq⟩ : ∃ q, q = wr.heap.size := ⟨_, rfl⟩
    obtain ⟨N1, hb1, hs1⟩ := hb.add (hs.alloc 49 #[.string an, .string av])
    rw [← hq] at hb1
    have hu1 : ((⟨#[97, 61]⟩ : ByteArray) ++ an).size = 2 + an.size := by rw [ByteArray.size_append]; rfl
    have hl1 : (T ++ ((⟨#[97, 61]⟩ : ByteArray) ++ an).data.toList).length = T.length + (2 + an.size) := by rw [List.length_append, ← hu1]; rfl
    have HC1 := Lib.hid (writeC I _ N1 _ B b T (⟨#[97, 61]⟩ ++ an) hs1 hb1 HB.out (by omega))
    obtain ⟨z0, z1, f0, f1, zl⟩ := Blk.two (show Blk (wr.alloc (.cells #[.string an, .string av] 49)) q 49 #[.string an, .string av] from by rw [hq]; exact heap_alloc_new wr _)
    rw [hq] at z0 z1 zl f0 f1
    clear hs hb hs1 hb1
    by_cases h0 : av.size = 0
    · have he := isEmpty_yes h0
      have HW2 := Lib.hid (show (T ++ ((⟨#[97, 61]⟩ : ByteArray) ++ an).data.toList).length + ByteArray.size ⟨#[13, 10]⟩ ≤ 140737488355328 from by rw [hl1]; show _ + 2 ≤ _; omega)
      clear hl1
      have HX := Lib.hid (show T ++ ((⟨#[97, 61]⟩ : ByteArray) ++ an).data.toList ++ [13, 10] = T ++ attrL ⟨an, av⟩ by
        rw [app_list]; unfold attrL valueL; rw [if_pos h0]; simp)
      go_wp2_with (go_at_call 28; first
        | (refine HC1.out.mono ?_; clear HC1; rintro e w2 ⟨_, _, N2, rfl, _, hs2, rfl, hb2⟩; have HS2 := Lib.hid (show St I N2 w2 ∧ _ from ⟨hs2, hb2⟩); obtain ⟨x0, x1, _, _, _⟩ := Blk.two (show Blk w2 q 49 #[.string an, .string av] from (hb2.rest hs2).head); rw [hq] at x0 x1; clear hs2 hb2)
        | (refine (writeC I _ _ _ B b _ ⟨#[13, 10]⟩ HS2.out.1 HS2.out.2 HB.out HW2.out).mono ?_; rintro e w3 ⟨_, _, N3, rfl, _, hs3, rfl, hb3⟩; have HS3 := Lib.hid (hb3.less hs3); clear hs3 hb3))
      go_roundw
      case rel => exact ⟨k + 1, by omega, by go_num, Lib.hid (by obtain ⟨N4, h1, h2⟩ := HS3.out; refine ⟨N4, h2, ?_⟩; rw [HTK.out, ← HX.out]; exact h1)⟩
      case measure => simp [intOf]; omega
    · have he := isEmpty_no h0
      have HL1 := Lib.hid hl1
      clear hl1
      have hu2 : ((⟨#[58]⟩ : ByteArray) ++ av).size = 1 + av.size := by rw [ByteArray.size_append]; rfl
      have HW2 := Lib.hid (show (T ++ ((⟨#[97, 61]⟩ : ByteArray) ++ an).data.toList).length + ((⟨#[58]⟩ : ByteArray) ++ av).size ≤ 140737488355328 from by rw [HL1.out, hu2]; omega)
      have HW3 := Lib.hid (show (T ++ ((⟨#[97, 61]⟩ : ByteArray) ++ an).data.toList ++ ((⟨#[58]⟩ : ByteArray) ++ av).data.toList).length + ByteArray.size ⟨#[13, 10]⟩ ≤ 140737488355328 from by rw [List.length_append, HL1.out, show (((⟨#[58]⟩ : ByteArray) ++ av).data.toList).length = 1 + av.size from by rw [← hu2]; rfl]; show _ + 2 ≤ _; omega)
      have HX := Lib.hid (show T ++ ((⟨#[97, 61]⟩ : ByteArray) ++ an).data.toList ++ ((⟨#[58]⟩ : ByteArray) ++ av).data.toList ++ [13, 10] = T ++ attrL ⟨an, av⟩ by
        rw [app_list, app_list]; unfold attrL valueL; rw [if_neg h0]; simp)
      go_upto_region 5 with (go_at_call 28; (refine HC1.out.mono ?_; clear HC1; rintro e w2 ⟨_, _, N2, rfl, _, hs2, rfl, hb2⟩; have HS2 := Lib.hid (show St I N2 w2 ∧ _ from ⟨hs2, hb2⟩); obtain ⟨x0, x1, _, _, _⟩ := Blk.two (show Blk w2 q 49 #[.string an, .string av] from (hb2.rest hs2).head); rw [hq] at x0 x1; clear hs2 hb2))
      have HC2 := Lib.hid (writeC I _ _ _ B b (T ++ ((⟨#[97, 61]⟩ : ByteArray) ++ an).data.toList) (⟨#[58]⟩ ++ av) HS2.out.1 HS2.out.2 HB.out HW2.out)
      go_upto_region 6 with (go_at_call 28; refine HC2.out.mono ?_; clear HC2; rintro e w3 ⟨_, _, N3, rfl, _, hs3, rfl, hb3⟩; have HS3 := Lib.hid (show St I N3 w3 ∧ _ from ⟨hs3, hb3⟩); clear hs3 hb3)
      have HC3 := Lib.hid (writeC I _ _ _ B b (T ++ ((⟨#[97, 61]⟩ : ByteArray) ++ an).data.toList ++ ((⟨#[58]⟩ : ByteArray) ++ av).data.toList) ⟨#[13, 10]⟩ HS3.out.1 HS3.out.2 HB.out HW3.out)
      go_wp2_with (go_at_call 28; refine HC3.out.mono ?_; clear HC3; rintro e w4 ⟨_, _, N4, rfl, _, hs4, rfl, hb4⟩; have HS4 := Lib.hid (hb4.less hs4); clear hs4 hb4)
      go_roundw
      case rel => exact ⟨k + 1, by omega, by go_num, Lib.hid (by obtain ⟨N5, h1, h2⟩ := HS4.out; refine ⟨N5, h2, ?_⟩; rw [HTK.out, ← HX.out]; exact h1)⟩
      case measure => simp [intOf]; omega
end Go.Proofs.Ytpbbincgddmbiaa
