/- rtcp.Parse: what it answers is good and built to the bytes; and a list that may be built comes back. -/
import Derived.Test.YtddopbbmgpnjjaaRrL
import Derived.Test.YtddopbbmgpnjjaaRcZ
import Derived.Test.YtddopbbmgpnjjaaRdK
namespace Go.Proofs.Ytddopbbmgpnjjaa
open Go.RowKit
set_option linter.unusedSimpArgs false

theorem equalC (I : Img) (M : List Res) (w : World) (A B : Option Addr) (a b : List UInt8) (c d : Nat) (ha : Byts I A a) (hb : Byts I B b) (hst : St I M w) : Calls Try.prog 31 #[.slice A a.length c, .slice B b.length d] w (fun e w' => e = .returned (.bool (decide (a = b))) ∧ w = w') := by
  have h1 := ha.conv hst Try.underlying24 Try.underlying5 Try.underlying9 c
  have h2 := hb.conv hst Try.underlying24 Try.underlying5 Try.underlying9 d
  clear ha hb hst
  go_enter Try.func31, Try.ntmps31
  go_wp2
  go_ret
  have hd : (a == b) = decide (a = b) := by rw [Bool.eq_iff_iff]; simp
  exact ⟨by rw [← hd]; rfl, rfl⟩
/-- what is meant: a list that may be built to these bytes -/
def TL (bs : List UInt8) (l : List Pk) : Prop := Built l ∧ (∀ p ∈ l, PkOk p) ∧ l.flatMap packB = bs
/-- a block of the call's own -/
def NewG (I : Img) (M : List Res) (J : Img) (t : Nat) (A : Option Addr) : Prop := ∃ g cs, A = some ⟨g, 0, none⟩ ∧ J.obj g = some (.cells cs t (0, 0)) ∧ I.obj g = none ∧ ∀ r ∈ M, r.blk ≠ some g
theorem NewG.weak {I I' J J' : Img} {M M' : List Res} {t : Nat} {A : Option Addr} (h : NewG I' M' J t A) (h1 : I.le I') (h2 : J.le J') (h3 : ∀ r ∈ M, r ∈ M') : NewG I M J' t A := by
  obtain ⟨g, cs, e, a1, a2, a3⟩ := h
  refine ⟨g, cs, e, h2.obj _ _ a1, ?_, fun r hr => a3 r (h3 r hr)⟩
  cases e2 : I.obj g with
  | none => rfl
  | some o => rw [h1.obj _ _ e2] at a2; cases a2
theorem SeqNew.weak {I I' J J' : Img} {M M' : List Res} {v : Value} (h : SeqNew I' M' J v) (h1 : I.le I') (h2 : J.le J') (h3 : ∀ r ∈ M, r ∈ M') : SeqNew I M J' v := by
  obtain ⟨g, n, c, cs, e, a1, a2, a3⟩ := h
  refine ⟨g, n, c, cs, e, h2.obj _ _ a1, ?_, fun r hr => a3 r (h3 r hr)⟩
  cases e2 : I.obj g with
  | none => rfl
  | some o => rw [h1.obj _ _ e2] at a2; cases a2
theorem St.freezeRowG {I : Img} {M : List Res} {w : World} {e size n n' c : Nat} {A : Option Addr} {xs : List Value} (h : St I (row e size (.slice A n' c) n xs :: M) w) : ∃ J, I.le J ∧ St J M w ∧ Cells J A xs ∧ (xs = [] ∨ NewG I M J e A) := by
  rcases Nat.eq_zero_or_pos xs.length with h0 | h0
  · obtain ⟨J, h1, h2, h3⟩ := h.freezeRow
    exact ⟨J, h1, h2, h3, .inl (List.eq_nil_of_length_eq_zero h0)⟩
  obtain ⟨g, cur, e1, e2, hlc, hcm, hcs, hct, hs⟩ := h.rowBk h0
  subst e1
  obtain ⟨J, hle, hst, hobj⟩ := hs.freezeBlk
  refine ⟨J, hle, hst, ?_, .inr ⟨g, cur, rfl, hobj, hs.away _ (List.mem_cons_self ..) g rfl, fun r hr hb => ?_⟩⟩
  · intro _
    refine ⟨g, 0, rfl, fun j hj => ?_⟩
    have h1 : cur[j]? = some xs[j] := by
      have h2 : (List.take (n * size) cur.toList)[j]? = some xs[j] := by rw [hct]; exact List.getElem?_eq_getElem hj
      rw [List.getElem?_take] at h2
      split at h2
      · rw [← Array.getElem?_toList]; exact h2
      · cases h2
    unfold Img.cell?
    simp only [hobj, Nat.zero_add]
    exact h1
  · exact (List.pairwise_cons.1 hs.apart).1 r hr g rfl hb
theorem pack_pos (p : Pk) : 0 < (packB p).length := by
  unfold packB
  simp only [List.length_append, List.length_cons, List.length_nil, u16B_len]
  omega
theorem pack_read {p : Pk} {t : List UInt8} (hg : Good p) {r r1 r2 r3 : RS} {y1 y2 y3 : Int} (hr : r = (packB p ++ t, false)) (h1 : Rd1 r y1 r1) (h2 : Rd1 r1 y2 r2) (h3 : Rd2 r2 y3 r3) :
    (y1 = 128 + lowP p ∧ y2 = (whereP p.kind).1) ∧ cutS (4 * y3) r3 = (evenL (bodyL p), (t, false)) := by
  have hl := lowP_ok hg
  have hw : 0 ≤ (whereP p.kind).1 ∧ (whereP p.kind).1 ≤ 255 := by
    have hk := hg.1
    unfold KindOk at hk
    rcases (show p.kind = 1 ∨ p.kind = 2 ∨ p.kind = 3 ∨ p.kind = 4 ∨ p.kind = 5 ∨ p.kind = 6 ∨ p.kind = 7 ∨ p.kind = 8 by omega) with h | h | h | h | h | h | h | h
    all_goals (rw [h]; simp [whereP])
  have hb := body_len hg
  have he := evenL_le (bodyL p)
  have hm := evenL_len (bodyL p)
  obtain ⟨a1, hr1⟩ := rd1_of (y := 128 + lowP p) (t := [byteOf (whereP p.kind).1] ++ (u16B ((evenL (bodyL p)).length / 4 : Nat) ++ (evenL (bodyL p) ++ t))) h1 (by omega) (hr.trans (by simp [packB]))
  obtain ⟨a2, hr2⟩ := rd1_of (y := (whereP p.kind).1) h2 hw hr1
  obtain ⟨a3, hr3⟩ := rd2_of h3 (by omega) hr2
  refine ⟨⟨a1, a2⟩, ?_⟩
  rw [hr3]
  exact cut_app _ _ _ (by omega)
/-- what Parse answers -/
def ParseOk (I : Img) (M : List Res) (bs : List UInt8) (e : Ending) (w' : World) : Prop :=
  ∃ J, I.le J ∧ St J M w' ∧ ((e = .returned (.tuple #[.slice none 0 0, .int .i64 2]) ∧ ∀ l, ¬ TL bs l) ∨
    ∃ B c qs, e = .returned (.tuple #[.slice B qs.length c, .int .i64 0]) ∧ Pks J B qs ∧ qs.length ≤ c ∧ Built (pks qs) ∧ (pks qs).flatMap packB = bs ∧ NewG I M J 51 B ∧ (∀ x ∈ qs, x.1.seqs = [] ∨ SeqNew I M J x.2.q) ∧ ∀ l, TL bs l → l = pks qs)
def lenOf : Value → Nat
  | .slice _ n _ => n
  | _ => 0
set_option maxRecDepth 100000 in
set_option maxHeartbeats 20000000 in
theorem parseC (I : Img) (M : List Res) (w : World) (A0 : Option Addr) (c0 : Nat) (bs : List UInt8) (hbs : Byts I A0 bs) (hlen : bs.length ≤ 140737488351232) (hst : St I M w) :
    Calls Try.prog 14 #[.slice A0 bs.length c0] w (ParseOk I M bs) := by
  have HB := Lib.hid hbs
  have HS := Lib.hid hst
  clear hbs hst
  rcases Nat.lt_or_ge 1500 bs.length with hgt | hle
  · skip
    have HF := Lib.hid (show ParseOk I M bs (.returned (.tuple #[.slice none 0 0, .int .i64 2])) w from ⟨I, .refl I, HS.out, .inl ⟨rfl, fun l hl => by have h1 := hl.1.2.2.2; rw [hl.2.2] at h1; omega⟩⟩)
    have hgi : (1500 : Int) < (bs.length : Int) := by omega
    go_enter Try.func14, Try.ntmps14
    go_wp2
    go_returns
    exact HF.out
  have HC := Lib.hid (rd_new A0 c0 bs HS.out HB.out hlen)
  have HLB := Lib.hid hle
  have hgi : ¬ (1500 : Int) < (bs.length : Int) := by omega
  go_enter Try.func14, Try.ntmps14
  go_wp2_with fail
  go_at_call 24
  refine HC.out.mono ?_
  clear HC HS
  rintro e w1 ⟨_, J, _, rfl, hle1, hs1, p9, b, rfl, hR, rfl⟩
  have HS := Lib.hid hs1
  have HR := Lib.hid hR
  have HLE := Lib.hid hle1
  clear hgi hle hs1 hR hle1
  go_upto_region 5 with fail
  go_loopw [4] (fun lv wr => ∃ (qs : List (Pk × Vs)) (B : Option Addr) (c : Nat) (rL : RS) (b9 : Res) (J1 : Img), lv = .slice B qs.length c ∧ Hid (I.le J1 ∧ St J1 (b9 :: row 51 16 (.slice B qs.length c) qs.length (flat pvC qs) :: M) wr ∧ Rdr J1 p9 rL b9 ∧ rL.1.length ≤ 1500 ∧ qs.length ≤ 8 ∧ (∀ x ∈ qs, PkIn J1 x.1 x.2 ∧ PkRaw x.1 ∧ (x.1.seqs = [] ∨ SeqNew I M J1 x.2.q)) ∧ ∀ l, TL bs l → ∃ t, l = pks qs ++ t ∧ rL = (t.flatMap packB, false))) (fun lv _ => 8 - lenOf lv)
  case atStart => exact ⟨[], none, 0, (bs, false), b, J, rfl, Lib.hid ⟨HLE.out, (HS.out.nil (e := 51) (size := 16)).swap1, HR.out, HLB.out, by simp, (fun x hx => by cases hx), fun l hl => ⟨l, rfl, by rw [hl.2.2]⟩⟩⟩
  case round =>
    obtain ⟨qs, B, c, rL, b, J1, rfl, hh⟩ := hrel
    obtain ⟨hle, hs, hR, hl9, hq8, hall, ht⟩ := hh.out
    clear hh HS HR HLB HLE
    have HS := Lib.hid hs
    have HR := Lib.hid hR
    have HL := Lib.hid hl9
    have HIN := Lib.hid (And.intro hle (And.intro hall ht))
    clear hs hR hl9 hle hall ht J
    have HLf := Lib.hid (rd_left (I := J1) p9 rL b HS.out HR.out)
    obtain ⟨ln, hln⟩ : ∃ n, n = rL.1.length := ⟨_, rfl⟩
    rw [← hln] at HLf
    have HLN := Lib.hid hln
    clear hln
    rcases Nat.eq_zero_or_pos ln with h0 | h0
    · subst h0
      go_upto_region 11 with (go_at_call 25; refine HLf.out.mono ?_; rintro e w3 ⟨rfl, hw⟩; subst hw)
      obtain ⟨J2, hle2, hs2, hcl, hnew⟩ := HS.out.swap1.freezeRowG
      have HCP := Lib.hid (own_cap (show World.ownsRow _ 0 51 16 (.slice B qs.length c) qs.length _ from HS.out.at 1 rfl)).2
      have hpk : Pks J2 B qs := ⟨hcl, fun x hx => ⟨(HIN.out.2.1 x hx).1.mono hle2, (HIN.out.2.1 x hx).2.1⟩, by omega⟩
      have HT := Lib.hid (show ∀ l, TL bs l → l = pks qs from fun l hl => by
        obtain ⟨t, h1, h2⟩ := HIN.out.2.2 l hl
        have h3 := HLN.out
        rw [h2] at h3
        rw [h1, fm_zero pack_pos h3.symm, List.append_nil])
      have HC := Lib.hid (buildC J2 _ _ B c qs hpk hs2)
      have HPK := Lib.hid (And.intro hpk (And.intro hle2 hnew))
      clear HS hs2 hpk hle2 hcl hnew HLf
      go_wp2_with fail
      go_at_call 11
      refine HC.out.mono ?_
      clear HC
      rintro e w4 ⟨_, J3, _, rfl, hle3, hs3, hbt⟩
      rcases hbt with ⟨hbt, u, rfl, rfl⟩ | ⟨hbt, rfl, rfl⟩
      · obtain ⟨uA, uc, rfl⟩ := own_form (show World.ownsRow _ 0 5 1 u _ _ from hs3.at 0 rfl)
        obtain ⟨J4, hle4, hs4, hby⟩ := hs3.freezeRow
        have hby : Byts J4 uA ((pks qs).flatMap packB) := hby
        have hIJ := ((HIN.out.1.trans HPK.out.2.1).trans hle3).trans hle4
        obtain ⟨ob, hob⟩ : ∃ z, z = (pks qs).flatMap packB := ⟨_, rfl⟩
        rw [← hob] at hby hs3 ⊢
        have HC := Lib.hid (equalC J4 _ _ A0 uA bs ob c0 uc (HB.out.mono hIJ) hby hs4)
        have HS := Lib.hid hs4.drop
        have HBT := Lib.hid (And.intro hbt (And.intro hob (And.intro hIJ (hle3.trans hle4))))
        clear hs3 hs4 hby hbt hob hIJ hle3 hle4
        by_cases hq : bs = ob
        · rw [decide_eq_true hq] at HC
          have HQ := Lib.hid hq
          clear hq
          go_wp2_with (go_at_call 31; refine HC.out.mono ?_; rintro e w5 ⟨rfl, hw⟩; subst hw)
          go_returns
          obtain ⟨h1, h2, h3, h4⟩ := HBT.out
          obtain ⟨k1, k2, k3⟩ := HPK.out
          refine ⟨J4, h3, HS.out, .inr ⟨B, c, qs, rfl, k1.mono h4, HCP.out, h1, by rw [← h2]; exact HQ.out.symm, ?_, fun x hx => ?_, HT.out⟩⟩
          · rcases k3 with k3 | k3
            · obtain ⟨⟨g1, _⟩, _⟩ := h1
              cases qs with
              | nil => simp [pks] at g1
              | cons x r => simp [flat] at k3
            · exact k3.weak HIN.out.1 h4 (fun r hr => List.mem_cons_of_mem _ hr)
          · rcases (HIN.out.2.1 x hx).2.2 with h | h
            · exact .inl h
            · exact .inr (h.weak (.refl I) (k2.trans h4) (fun r hr => hr))
        · rw [decide_eq_false hq] at HC
          have HQ := Lib.hid hq
          clear hq
          go_wp2_with (go_at_call 31; refine HC.out.mono ?_; rintro e w5 ⟨rfl, hw⟩; subst hw)
          go_returns
          refine ⟨J4, HBT.out.2.2.1, HS.out, .inl ⟨rfl, fun l hl => ?_⟩⟩
          have h1 := HT.out l hl
          have h2 := hl.2.2
          rw [h1, ← HBT.out.2.1] at h2
          exact HQ.out h2.symm
      · have HS := Lib.hid hs3.drop
        have HBT := Lib.hid (And.intro hbt ((HIN.out.1.trans HPK.out.2.1).trans hle3))
        clear hs3 hbt hle3
        go_wp2
        go_returns
        refine ⟨J3, HBT.out.2, HS.out, .inl ⟨rfl, fun l hl => ?_⟩⟩
        exact HBT.out.1 (HT.out l hl ▸ hl.1)
    · have h0i : (0 : Int) < (ln : Int) := by omega
      have HPOS := Lib.hid (show 0 < rL.1.length from HLN.out ▸ h0)
      go_upto_region 6 with (go_at_call 25; refine HLf.out.mono ?_; rintro e w3 ⟨rfl, hw⟩; subst hw)
      clear HLf
      have HC := Lib.hid (rd_u8 (I := J1) p9 rL b HS.out HR.out)
      go_wp2_with fail
      go_at_call 26
      refine HC.out.mono ?_
      clear HC HS HR
      rintro e w1 ⟨_, _, _, rfl, _, hs, rfl, rfl, b, hR, rfl⟩
      obtain ⟨y1, hx⟩ : ∃ z, z = ((numL (cutS 1 rL).1 : Nat) : Int) := ⟨_, rfl⟩
      obtain ⟨r1, hr⟩ : ∃ z, z = (cutS 1 rL).2 := ⟨_, rfl⟩
      have hrng := nm_rng 1 rL 1 (by decide)
      rw [← hx] at hrng ⊢
      rw [← hr] at hR
      obtain ⟨y1a, y1b⟩ := hrng
      have HL := Lib.hid (show r1.1.length ≤ 1500 from (by rw [hr]; exact Nat.le_trans (cutS_left 1 rL) HL.out))
      replace y1b : y1 ≤ 255 := (by have h9 : ((256 ^ 1 : Nat) : Int) = 256 := (by decide); omega)
      have HXy1 := Lib.hid (And.intro hx hr)
      have HS := Lib.hid hs
      have HR := Lib.hid hR
      clear hx hr hs hR
      have HC := Lib.hid (rd_u8 (I := J1) p9 r1 b HS.out HR.out)
      go_wp2_with fail
      go_at_call 26
      refine HC.out.mono ?_
      clear HC HS HR
      rintro e w2 ⟨_, _, _, rfl, _, hs, rfl, rfl, b, hR, rfl⟩
      obtain ⟨y2, hx⟩ : ∃ z, z = ((numL (cutS 1 r1).1 : Nat) : Int) := ⟨_, rfl⟩
      obtain ⟨r2, hr⟩ : ∃ z, z = (cutS 1 r1).2 := ⟨_, rfl⟩
      have hrng := nm_rng 1 r1 1 (by decide)
      rw [← hx] at hrng ⊢
      rw [← hr] at hR
      obtain ⟨y2a, y2b⟩ := hrng
      have HL := Lib.hid (show r2.1.length ≤ 1500 from (by rw [hr]; exact Nat.le_trans (cutS_left 1 r1) HL.out))
      replace y2b : y2 ≤ 255 := (by have h9 : ((256 ^ 1 : Nat) : Int) = 256 := (by decide); omega)
      have HXy2 := Lib.hid (And.intro hx hr)
      have HS := Lib.hid hs
      have HR := Lib.hid hR
      clear hx hr hs hR
      have HC := Lib.hid (rd_u16 (I := J1) p9 r2 b HS.out HR.out)
      go_wp2_with fail
      go_at_call 28
      refine HC.out.mono ?_
      clear HC HS HR
      rintro e w3 ⟨_, _, _, rfl, _, hs, rfl, rfl, b, hR, rfl⟩
      obtain ⟨y3, hx⟩ : ∃ z, z = ((numL (cutS 2 r2).1 : Nat) : Int) := ⟨_, rfl⟩
      obtain ⟨r3, hr⟩ : ∃ z, z = (cutS 2 r2).2 := ⟨_, rfl⟩
      have hrng := nm_rng 2 r2 2 (by decide)
      rw [← hx] at hrng ⊢
      rw [← hr] at hR
      obtain ⟨y3a, y3b⟩ := hrng
      have HL := Lib.hid (show r3.1.length ≤ 1500 from (by rw [hr]; exact Nat.le_trans (cutS_left 2 r2) HL.out))
      replace y3b : y3 ≤ 65535 := (by have h9 : ((256 ^ 2 : Nat) : Int) = 65536 := (by decide); omega)
      have HXy3 := Lib.hid (And.intro hx hr)
      have HS := Lib.hid hs
      have HR := Lib.hid hR
      clear hx hr hs hR
      have HC := Lib.hid (rd_take (I := J1) p9 (4 * y3) r3 b HS.out HR.out (by omega) (by have := HL.out; omega))
      go_wp2_with fail
      go_at_call 27
      refine HC.out.mono ?_
      clear HC HR HS
      rintro e w4 ⟨_, _, _, rfl, _, hs, rfl, A9, c9, b, rfl, hc9, hR, rfl⟩
      obtain ⟨J2, hle2, hs6, hB⟩ := hs.freezeRow
      have hln := cutS_le (4 * y3) r3
      have hln2 := cutS_left (4 * y3) r3
      obtain ⟨bo, hbo⟩ : ∃ z, z = (cutS (4 * y3) r3).1 := ⟨_, rfl⟩
      obtain ⟨r4, hr4⟩ : ∃ z, z = (cutS (4 * y3) r3).2 := ⟨_, rfl⟩
      rw [← hbo] at hB hln ⊢
      rw [← hr4] at hR hln2
      have HBO := Lib.hid (And.intro hbo hr4)
      have HL3 := Lib.hid (show bo.length ≤ 1500 from Nat.le_trans hln HL.out)
      have HL := Lib.hid (show r4.1.length ≤ 1500 from Nat.le_trans hln2 HL.out)
      have HBd := Lib.hid (rd_bad (I := J2) p9 r4 b hs6 (hR.mono hle2))
      have HS := Lib.hid hs6
      have HR := Lib.hid (hR.mono hle2)
      have HLE2 := Lib.hid hle2
      have HBB := Lib.hid (show Byts J2 A9 bo from hB)
      clear hbo hr4 hln hln2 hs hs6 hR hle2 hB
      have HRD := Lib.hid (show ∀ l, TL bs l → ∃ p t, l = pks qs ++ p :: t ∧ (Good p ∧ PkOk p ∧ p.kind = kindP y1 y2 ∧ ((bo, false) : RS) = (evenL (bodyL p), false)) ∧ r4 = (t.flatMap packB, false) from fun l hl => by
        obtain ⟨t, h1, h2⟩ := HIN.out.2.2 l hl
        have h3 := HPOS.out
        rw [h2] at h3
        obtain ⟨p, t', rfl, h4⟩ := fm_more h3
        have hm : p ∈ l := by rw [h1]; simp
        have hg := hl.1.2.2.1 p hm
        obtain ⟨⟨a1, a2⟩, a3⟩ := pack_read hg (h2.trans (by rw [h4])) HXy1.out HXy2.out HXy3.out
        obtain ⟨b1, b2⟩ := HBO.out
        rw [a3] at b1 b2
        exact ⟨p, t', h1, ⟨hg, hl.2.1 p hm, by rw [a1, a2]; exact (kind_back hg).symm, by rw [b1]⟩, b2⟩)
      obtain ⟨bd, hbd⟩ : ∃ x, x = r4.2 := ⟨_, rfl⟩
      rw [← hbd] at HBd
      have HBD := Lib.hid hbd
      clear hbd
      have HER := Lib.hid (show (bd = true ∨ qs.length = 8) → ∃ J, I.le J ∧ St J M w4 ∧ ∀ l, ¬ TL bs l from fun h => by
        refine ⟨J2, HIN.out.1.trans HLE2.out, HS.out.drop.drop, fun l hl => ?_⟩
        obtain ⟨p, t, h1, _, h2⟩ := HRD.out l hl
        rcases h with h | h
        · have h3 := HBD.out
          rw [h, h2] at h3
          cases h3
        · have h3 := hl.1.1.2
          rw [h1, List.length_append, List.length_map, h] at h3
          rw [List.length_cons] at h3
          omega)
      cases bd
      case true =>
        obtain ⟨J9, e1, e2, e3⟩ := HER.out (.inl rfl)
        have HF := Lib.hid (show ParseOk I M bs (.returned (.tuple #[.slice none 0 0, .int .i64 2])) w4 from ⟨J9, e1, e2, .inl ⟨rfl, e3⟩⟩)
        clear e1 e2 e3
        go_wp2_with (go_at_call 29; refine HBd.out.mono ?_; rintro e w3 ⟨rfl, hw⟩; subst hw)
        go_returns
        exact HF.out
      by_cases h8 : qs.length = 8
      · skip
        obtain ⟨J9, e1, e2, e3⟩ := HER.out (.inr h8)
        have HF := Lib.hid (show ParseOk I M bs (.returned (.tuple #[.slice none 0 0, .int .i64 2])) w4 from ⟨J9, e1, e2, .inl ⟨rfl, e3⟩⟩)
        have h8i : (qs.length : Int) = 8 := by omega
        clear e1 e2 e3
        go_wp2_with (go_at_call 29; refine HBd.out.mono ?_; rintro e w3 ⟨rfl, hw⟩; subst hw)
        go_returns
        exact HF.out
      · skip
        clear HER
        have HQ8 := Lib.hid (show qs.length < 8 by omega)
        obtain ⟨N9, hN⟩ : ∃ n, n = qs.length := ⟨_, rfl⟩
        have h8b : ((N9 : Int) == 8) = false := by rw [beq_eq_false_iff_ne]; omega
        rw [← hN] at HS hq8 ⊢
        have HN := Lib.hid hN
        clear h8 hN
        go_upto_region 10 with (go_at_call 29; refine HBd.out.mono ?_; rintro e w3 ⟨rfl, hw⟩; subst hw)
        clear HBd h8b
        have hsd := HS.out
        have HC := Lib.hid (rd_new A9 c9 bo hsd HBB.out (by have := HL3.out; omega))
        clear HS hsd
        go_wp2_with fail
        go_at_call 24
        refine HC.out.mono ?_
        clear HC
        rintro e w5 ⟨_, J3, _, rfl, hle3, hsd, p2, b2, rfl, hR2, rfl⟩
        have HC := Lib.hid (readC J3 _ w5 y1 y2 p2 (bo, false) b2 (fun p => ∃ l t, TL bs l ∧ l = pks qs ++ p :: t) (fun p hp => by
          obtain ⟨l, t, hl, e⟩ := hp
          obtain ⟨p', t', e', hok, _⟩ := HRD.out l hl
          have e2 := e.symm.trans e'
          have e3 := (List.cons.inj (List.append_cancel_left e2)).1
          rw [e3]
          exact hok) ⟨y1a, y1b⟩ (by have := HL3.out; show bo.length ≤ 2000; omega) hsd hR2)
        have HLE3 := Lib.hid hle3
        clear hsd hR2 hle3
        go_wp2_with fail
        go_at_call 30
        refine HC.out.mono ?_
        clear HC
        rintro e w6 ⟨J4, pk, vs, rfl, hle4, hsd, hin, hraw, hnew, huni⟩
        obtain ⟨rA, rz, e1, cr, kr⟩ := hin.r
        obtain ⟨sA, sz, e2, cs, ks⟩ := hin.s
        obtain ⟨qA, qz, e3, cq, kq⟩ := hin.q
        obtain ⟨aA, az, e4, ca, ka⟩ := hin.a
        obtain ⟨wA, wz, e5, cw, kw⟩ := hin.w
        obtain ⟨vr, vs', vq, va, vw⟩ := vs
        dsimp only at e1 e2 e3 e4 e5
        subst e1 e2 e3 e4 e5
        obtain ⟨pv, hpv⟩ : ∃ z : Vs, z = ⟨.slice rA pk.reps.length rz, .slice sA pk.srcs.length sz, .slice qA pk.seqs.length qz, .slice aA pk.arrs.length az, .slice wA pk.wants.length wz⟩ := ⟨_, rfl⟩
        have HPK := Lib.hid (And.intro hin (And.intro hraw (And.intro hnew (And.intro huni hpv))))
        have HLE4 := Lib.hid hle4
        clear hin hraw hnew huni hle4 cr cs cq ca cw kr ks kq ka kw hpv
        have hsg := hsd.swap1.grow (.cells (pkC pk ⟨.slice rA pk.reps.length rz, .slice sA pk.srcs.length sz, .slice qA pk.seqs.length qz, .slice aA pk.arrs.length az, .slice wA pk.wants.length wz⟩) 51)
        have hsr := hsd.litSrcV (P := Try.prog) (t := 29) (e := 51) (cs := (pkC pk ⟨.slice rA pk.reps.length rz, .slice sA pk.srcs.length sz, .slice qA pk.seqs.length qz, .slice aA pk.arrs.length az, .slice wA pk.wants.length wz⟩)) (n := 1) (size := 16) rfl (by decide) Try.underlying29 (by simp [Value.oneCell'])
        obtain ⟨i0, hi0, hz0, hz1, hz2⟩ := info_parts info51
        go_wp2_with (at_builtin; refine wpList_append_src _ rfl _ _ 29 29 rfl 0 51 i0 (.agg Z51) 16 192 Try.underlying29 hi0 hz0 hz1 hz2 rfl _ N9 (flat pvC qs) rfl hsg.head _ 1 _ rfl hsr (by have := HQ8.out; have := HN.out; unfold maxLen; omega) (by omega) (Nat.zero_le _) ?_)
        intro v' w7 hown' hgrow hat
        have hown2 : w7.ownsRow 0 51 16 v' (N9 + 1) (flat pvC (qs ++ [(pk, pv)])) := by rw [flat_append, HPK.out.2.2.2.2]; simpa [flat] using hown'
        obtain ⟨A10, c10, rfl⟩ := own_form hown2
        have HS6 := Lib.hid (hsg.grown hgrow hown2 (by simpa using hat)).swap1
        clear hown' hown2 hgrow hat hsr hsg hsd
        go_wp2
        go_roundw
        case rel =>
          have hql : (qs ++ [(pk, pv)]).length = N9 + 1 := by rw [List.length_append, ← HN.out]; rfl
          refine ⟨qs ++ [(pk, pv)], A10, c10, r4, b, J4, by rw [hql], Lib.hid ⟨((HIN.out.1.trans HLE2.out).trans HLE3.out).trans HLE4.out, by rw [hql]; exact HS6.out, (HR.out.mono HLE3.out).mono HLE4.out, HL.out, by rw [hql]; have := HQ8.out; have := HN.out; omega, fun x hx => ?_, fun l hl => ?_⟩⟩
          · rcases List.mem_append.1 hx with hx | hx
            · obtain ⟨h1, h2, h3⟩ := HIN.out.2.1 x hx
              have hle := (HLE2.out.trans HLE3.out).trans HLE4.out
              refine ⟨h1.mono hle, h2, ?_⟩
              rcases h3 with h3 | h3
              · exact .inl h3
              · exact .inr (h3.weak (.refl I) hle (fun r hr => hr))
            · rw [List.mem_singleton.1 hx]
              obtain ⟨h1, h2, h3, h4, h5⟩ := HPK.out
              rw [h5]
              refine ⟨h1, h2, ?_⟩
              rcases h3 with h3 | h3
              · exact .inl h3
              · exact .inr (h3.weak ((HIN.out.1.trans HLE2.out).trans HLE3.out) (.refl _) (fun r hr => List.mem_cons_of_mem _ (List.mem_cons_of_mem _ hr)))
          · obtain ⟨p, t, h1, h2, h3⟩ := HRD.out l hl
            have h4 := HPK.out.2.2.2.1 p ⟨l, t, hl, h1⟩
            exact ⟨t, by rw [h1, ← h4]; simp [pks], h3⟩
        case measure =>
          have := HQ8.out
          have := HN.out
          simp only [lenOf]
          omega
end Go.Proofs.Ytddopbbmgpnjjaa
