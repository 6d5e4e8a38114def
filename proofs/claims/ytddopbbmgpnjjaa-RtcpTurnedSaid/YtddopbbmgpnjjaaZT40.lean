/- part. -/
import Derived.Test.YtddopbbmgpnjjaaZT39
import Derived.Test.YtddopbbmgpnjjaaZT28
namespace Go.Proofs.Ytddopbbmgpnjjaa
set_option linter.unusedSimpArgs false
open Go.RowKit
theorem equalC (I : Zh) (M : List Zt) (w : World) (A B : Option Addr) (a b : List UInt8) (c d : Nat) (ha : Zq I A a) (hb : Zq I B b) (ZX : St I M w) : Calls Try.prog 31 #[.slice A a.length c, .slice B b.length d] w (fun e w' => e = .returned (.bool (decide (a = b))) /\ w = w') := by
 have h1 := ha.conv ZX Try.underlying24 Try.underlying5 Try.underlying9 c
 have h2 := hb.conv ZX Try.underlying24 Try.underlying5 Try.underlying9 d
 clear ha hb ZX
 go_enter Try.func31, Try.ntmps31
 go_wp2
 go_ret
 have hd : (a == b) = decide (a = b) := by rw [Bool.eq_iff_iff]; simp
 exact ⟨by rw [<- hd]; rfl, rfl⟩
def TL (bs : List UInt8) (l : List Pk) : Prop := Xh l /\ (∀ p ∈ l, Y6 p) /\ l.flatMap ZV = bs
def NewG (I : Zh) (M : List Zt) (J : Zh) (t : Nat) (A : Option Addr) : Prop := ∃ g cs, A = some ⟨g, 0, none⟩ /\ J.obj g = some (.cells cs t (0, 0)) /\ I.obj g = none /\ ∀ r ∈ M, r.blk ≠ some g
theorem NewG.weak {I I' J J' : Zh} {M M' : List Zt} {t : Nat} {A : Option Addr} (h : NewG I' M' J t A) (h1 : I.le I') (h2 : J.le J') (h3 : ∀ r ∈ M, r ∈ M') : NewG I M J' t A := by
 obtain ⟨g, cs, e, a1, a2, a3⟩ := h
 refine ⟨g, cs, e, h2.obj _ _ a1, ?_, fun r hr => a3 r (h3 r hr)⟩
 cases e2 : I.obj g with
 | none => rfl
 | some o => rw [h1.obj _ _ e2] at a2; cases a2
theorem SeqNew.weak {I I' J J' : Zh} {M M' : List Zt} {v : Value} (h : SeqNew I' M' J v) (h1 : I.le I') (h2 : J.le J') (h3 : ∀ r ∈ M, r ∈ M') : SeqNew I M J' v := by
 obtain ⟨g, n, c, cs, e, a1, a2, a3⟩ := h
 refine ⟨g, n, c, cs, e, h2.obj _ _ a1, ?_, fun r hr => a3 r (h3 r hr)⟩
 cases e2 : I.obj g with
 | none => rfl
 | some o => rw [h1.obj _ _ e2] at a2; cases a2
theorem St.freezeRowG {I : Zh} {M : List Zt} {w : World} {e size n n' c : Nat} {A : Option Addr} {xs : List Value} (h : St I (row e size (.slice A n' c) n xs :: M) w) : ∃ J, I.le J /\ St J M w /\ Cells J A xs /\ (xs = [] \/ NewG I M J e A) := by
 rcases Nat.eq_zero_or_pos xs.length with h0 | h0
 ·obtain ⟨J, h1, h2, h3⟩ := h.ZR
  exact ⟨J, h1, h2, h3, .inl (List.eq_nil_of_length_eq_zero h0)⟩
 obtain ⟨g, cur, e1, e2, hlc, hcm, hcs, hct, hs⟩ := h.rowBk h0
 subst e1
 obtain ⟨J, Z5, ZX, Z4⟩ := hs.Zg
 refine ⟨J, Z5, ZX, ?_, .inr ⟨g, cur, rfl, Z4, hs.away _ (List.mem_cons_self ..) g rfl, fun r hr hb => ?_⟩⟩
 ·intro _
  refine ⟨g, 0, rfl, fun j hj => ?_⟩
  have h1 : cur[j]? = some xs[j] := by
   have h2 : (List.take (n * size) cur.toList)[j]? = some xs[j] := by rw [hct]; exact List.getElem?_eq_getElem hj
   rw [List.getElem?_take] at h2
   split at h2
   ·rw [<- Array.getElem?_toList]; exact h2
   cases h2
  unfold Zh.cell?
  simp only [Z4, Nat.zero_add]
  exact h1
 exact (List.pairwise_cons.1 hs.apart).1 r hr g rfl hb
theorem pack_pos (p : Pk) : 0 < (ZV p).length := by
 unfold ZV
 simp only [List.length_append, List.length_cons, List.length_nil, Zz]
 omega
theorem pack_read {p : Pk} {t : List UInt8} (hg : Good p) {r r1 r2 r3 : RS} {y1 y2 y3 : Int} (hr : r = (ZV p ++ t, false)) (h1 : Rd1 r y1 r1) (h2 : Rd1 r1 y2 r2) (h3 : Rd2 r2 y3 r3) :
  (y1 = 128 + XV p /\ y2 = (Z8 p.kind).1) /\ Zl (4 * y3) r3 = (YH (Zu p), (t, false)) := by
 have hl := XB hg
 have hw : 0 <= (Z8 p.kind).1 /\ (Z8 p.kind).1 <= 255 := by
  have hk := hg.1
  unfold YF at hk
  rcases (show p.kind = 1 \/ p.kind = 2 \/ p.kind = 3 \/ p.kind = 4 \/ p.kind = 5 \/ p.kind = 6 \/ p.kind = 7 \/ p.kind = 8 by omega) with h | h | h | h | h | h | h | h
  all_goals (rw [h]; simp [Z8])
 have hb := Xt hg
 have he := Xr (Zu p)
 have hm := evenL_len (Zu p)
 obtain ⟨a1, hr1⟩ := Wd (y := 128 + XV p) (t := [byteOf (Z8 p.kind).1] ++ (Zi ((YH (Zu p)).length / 4 : Nat) ++ (YH (Zu p) ++ t))) h1 (by omega) (hr.trans (by simp [ZV]))
 obtain ⟨a2, hr2⟩ := Wd (y := (Z8 p.kind).1) h2 hw hr1
 obtain ⟨a3, hr3⟩ := WN h3 (by omega) hr2
 refine ⟨⟨a1, a2⟩, ?_⟩
 rw [hr3]
 exact cut_app _ _ _ (by omega)
def ParseOk (I : Zh) (M : List Zt) (bs : List UInt8) (e : Ending) (w' : World) : Prop :=
 ∃ J, I.le J /\ St J M w' /\ ((e = .returned (.tuple #[.slice none 0 0, .int .i64 2]) /\ ∀ l, ¬ TL bs l) \/
  ∃ B c qs, e = .returned (.tuple #[.slice B qs.length c, .int .i64 0]) /\ Pks J B qs /\ qs.length <= c /\ Xh (Yo qs) /\ (Yo qs).flatMap ZV = bs /\ NewG I M J 51 B /\ (∀ x ∈ qs, x.1.ZH = [] \/ SeqNew I M J x.2.q) /\ ∀ l, TL bs l -> l = Yo qs)
def lenOf : Value -> Nat
 | .slice _ n _ => n
 | _ => 0
set_option maxRecDepth 100000 in
set_option maxHeartbeats 20000000 in
theorem parseC (I : Zh) (M : List Zt) (w : World) (A0 : Option Addr) (c0 : Nat) (bs : List UInt8) (hbs : Zq I A0 bs) (hlen : bs.length <= 140737488351232) (ZX : St I M w) :
  Calls Try.prog 14 #[.slice A0 bs.length c0] w (ParseOk I M bs) := by
 have HB := VL hbs
 have HS := VL ZX
 clear hbs ZX
 rcases Nat.lt_or_ge 1500 bs.length with hgt | Z5
 ·skip
  have HF := VL (show ParseOk I M bs (.returned (.tuple #[.slice none 0 0, .int .i64 2])) w from ⟨I, .refl I, HS.out, .inl ⟨rfl, fun l hl => by have h1 := hl.1.2.2.2; rw [hl.2.2] at h1; omega⟩⟩)
  have hgi : (1500 : Int) < (bs.length : Int) := by omega
  go_enter Try.func14, Try.ntmps14
  go_wp2
  go_returns
  exact HF.out
 have HC := VL (rd_new A0 c0 bs HS.out HB.out hlen)
 have HLB := VL Z5
 have hgi : ¬ (1500 : Int) < (bs.length : Int) := by omega
 go_enter Try.func14, Try.ntmps14
 go_wp2_with fail
 go_at_call 24
 refine HC.out.mono ?_
 clear HC HS
 rintro e w1 ⟨_, J, _, rfl, hle1, ZY, p9, b, rfl, hR, rfl⟩
 have HS := VL ZY
 have HR := VL hR
 have HLE := VL hle1
 clear hgi Z5 ZY hR hle1
 go_upto_region 5 with fail
 go_loopw [4] (fun lv wr => ∃ (qs : List (Pk × Vs)) (B : Option Addr) (c : Nat) (rL : RS) (b9 : Zt) (J1 : Zh), lv = .slice B qs.length c /\ Hid (I.le J1 /\ St J1 (b9 :: row 51 16 (.slice B qs.length c) qs.length (flat pvC qs) :: M) wr /\ Rdr J1 p9 rL b9 /\ rL.1.length <= 1500 /\ qs.length <= 8 /\ (∀ x ∈ qs, PkIn J1 x.1 x.2 /\ W9 x.1 /\ (x.1.ZH = [] \/ SeqNew I M J1 x.2.q)) /\ ∀ l, TL bs l -> ∃ t, l = Yo qs ++ t /\ rL = (t.flatMap ZV, false))) (fun lv _ => 8 - lenOf lv)
 case atStart => exact ⟨[], none, 0, (bs, false), b, J, rfl, VL ⟨HLE.out, (HS.out.nil (e := 51) (size := 16)).ZQ, HR.out, HLB.out, by simp, (fun x hx => by cases hx), fun l hl => ⟨l, rfl, by rw [hl.2.2]⟩⟩⟩
 case round =>
  obtain ⟨qs, B, c, rL, b, J1, rfl, hh⟩ := hrel
  obtain ⟨Z5, hs, hR, hl9, hq8, hall, ht⟩ := hh.out
  clear hh HS HR HLB HLE
  have HS := VL hs
  have HR := VL hR
  have HL := VL hl9
  have YZ := VL (And.intro Z5 (And.intro hall ht))
  clear hs hR hl9 Z5 hall ht J
  have HLf := VL (Wi (I := J1) p9 rL b HS.out HR.out)
  obtain ⟨ln, hln⟩ : ∃ n, n = rL.1.length := ⟨_, rfl⟩
  rw [<- hln] at HLf
  have HLN := VL hln
  clear hln
  rcases Nat.eq_zero_or_pos ln with h0 | h0
  ·subst h0
   go_upto_region 11 with (go_at_call 25; refine HLf.out.mono ?_; rintro e w3 ⟨rfl, hw⟩; subst hw)
   obtain ⟨J2, Zd, YN, hcl, hnew⟩ := HS.out.ZQ.freezeRowG
   have HCP := VL (Yh (show World.ownsRow _ 0 51 16 (.slice B qs.length c) qs.length _ from HS.out.at 1 rfl)).2
   have hpk : Pks J2 B qs := ⟨hcl, fun x hx => ⟨(YZ.out.2.1 x hx).1.mono Zd, (YZ.out.2.1 x hx).2.1⟩, by omega⟩
   have HT := VL (show ∀ l, TL bs l -> l = Yo qs from fun l hl => by
    obtain ⟨t, h1, h2⟩ := YZ.out.2.2 l hl
    have h3 := HLN.out
    rw [h2] at h3
    rw [h1, VJ pack_pos h3.symm, List.append_nil])
   have HC := VL (buildC J2 _ _ B c qs hpk YN)
   have HPK := VL (And.intro hpk (And.intro Zd hnew))
   clear HS YN hpk Zd hcl hnew HLf
   go_wp2_with fail
   go_at_call 11
   refine HC.out.mono ?_
   clear HC
   rintro e w4 ⟨_, J3, _, rfl, YL, Zf, Wo⟩
   rcases Wo with ⟨Wo, u, rfl, rfl⟩ | ⟨Wo, rfl, rfl⟩
   ·obtain ⟨uA, uc, rfl⟩ := ZW (show World.ownsRow _ 0 5 1 u _ _ from Zf.at 0 rfl)
    obtain ⟨J4, hle4, Zv, hby⟩ := Zf.ZR
    have hby : Zq J4 uA ((Yo qs).flatMap ZV) := hby
    have hIJ := ((YZ.out.1.trans HPK.out.2.1).trans YL).trans hle4
    obtain ⟨ob, hob⟩ : ∃ z, z = (Yo qs).flatMap ZV := ⟨_, rfl⟩
    rw [<- hob] at hby Zf ⊢
    have HC := VL (equalC J4 _ _ A0 uA bs ob c0 uc (HB.out.mono hIJ) hby Zv)
    have HS := VL Zv.drop
    have HBT := VL (And.intro Wo (And.intro hob (And.intro hIJ (YL.trans hle4))))
    clear Zf Zv hby Wo hob hIJ YL hle4
    by_cases hq : bs = ob
    ·rw [decide_eq_true hq] at HC
     have HQ := VL hq
     clear hq
     go_wp2_with (go_at_call 31; refine HC.out.mono ?_; rintro e w5 ⟨rfl, hw⟩; subst hw)
     go_returns
     obtain ⟨h1, h2, h3, h4⟩ := HBT.out
     obtain ⟨k1, k2, k3⟩ := HPK.out
     refine ⟨J4, h3, HS.out, .inr ⟨B, c, qs, rfl, k1.mono h4, HCP.out, h1, by rw [<- h2]; exact HQ.out.symm, ?_, fun x hx => ?_, HT.out⟩⟩
     ·rcases k3 with k3 | k3
      ·obtain ⟨⟨g1, _⟩, _⟩ := h1
       cases qs with
       | nil => simp [Yo] at g1
       | cons x r => simp [flat] at k3
      exact k3.weak YZ.out.1 h4 (fun r hr => List.mem_cons_of_mem _ hr)
     rcases (YZ.out.2.1 x hx).2.2 with h | h
     ·exact .inl h
     exact .inr (h.weak (.refl I) (k2.trans h4) (fun r hr => hr))
    rw [decide_eq_false hq] at HC
    have HQ := VL hq
    clear hq
    go_wp2_with (go_at_call 31; refine HC.out.mono ?_; rintro e w5 ⟨rfl, hw⟩; subst hw)
    go_returns
    refine ⟨J4, HBT.out.2.2.1, HS.out, .inl ⟨rfl, fun l hl => ?_⟩⟩
    have h1 := HT.out l hl
    have h2 := hl.2.2
    rw [h1, <- HBT.out.2.1] at h2
    exact HQ.out h2.symm
   have HS := VL Zf.drop
   have HBT := VL (And.intro Wo ((YZ.out.1.trans HPK.out.2.1).trans YL))
   clear Zf Wo YL
   go_wp2
   go_returns
   refine ⟨J3, HBT.out.2, HS.out, .inl ⟨rfl, fun l hl => ?_⟩⟩
   exact HBT.out.1 (HT.out l hl ▸ hl.1)
  have h0i : (0 : Int) < (ln : Int) := by omega
  have HPOS := VL (show 0 < rL.1.length from HLN.out ▸ h0)
  go_upto_region 6 with (go_at_call 25; refine HLf.out.mono ?_; rintro e w3 ⟨rfl, hw⟩; subst hw)
  clear HLf
  have HC := VL (rd_u8 (I := J1) p9 rL b HS.out HR.out)
  go_wp2_with fail
  go_at_call 26
  refine HC.out.mono ?_
  clear HC HS HR
  rintro e w1 ⟨_, _, _, rfl, _, hs, rfl, rfl, b, hR, rfl⟩
  obtain ⟨y1, hx⟩ : ∃ z, z = ((YP (Zl 1 rL).1 : Nat) : Int) := ⟨_, rfl⟩
  obtain ⟨r1, hr⟩ : ∃ z, z = (Zl 1 rL).2 := ⟨_, rfl⟩
  have Zw := YT 1 rL 1 (by decide)
  rw [<- hx] at Zw ⊢
  rw [<- hr] at hR
  obtain ⟨y1a, y1b⟩ := Zw
  have HL := VL (show r1.1.length <= 1500 from (by rw [hr]; exact Nat.le_trans (Ze 1 rL) HL.out))
  replace y1b : y1 <= 255 := (by have h9 : ((256 ^ 1 : Nat) : Int) = 256 := (by decide); omega)
  have HXy1 := VL (And.intro hx hr)
  have HS := VL hs
  have HR := VL hR
  clear hx hr hs hR
  have HC := VL (rd_u8 (I := J1) p9 r1 b HS.out HR.out)
  go_wp2_with fail
  go_at_call 26
  refine HC.out.mono ?_
  clear HC HS HR
  rintro e w2 ⟨_, _, _, rfl, _, hs, rfl, rfl, b, hR, rfl⟩
  obtain ⟨y2, hx⟩ : ∃ z, z = ((YP (Zl 1 r1).1 : Nat) : Int) := ⟨_, rfl⟩
  obtain ⟨r2, hr⟩ : ∃ z, z = (Zl 1 r1).2 := ⟨_, rfl⟩
  have Zw := YT 1 r1 1 (by decide)
  rw [<- hx] at Zw ⊢
  rw [<- hr] at hR
  obtain ⟨y2a, y2b⟩ := Zw
  have HL := VL (show r2.1.length <= 1500 from (by rw [hr]; exact Nat.le_trans (Ze 1 r1) HL.out))
  replace y2b : y2 <= 255 := (by have h9 : ((256 ^ 1 : Nat) : Int) = 256 := (by decide); omega)
  have HXy2 := VL (And.intro hx hr)
  have HS := VL hs
  have HR := VL hR
  clear hx hr hs hR
  have HC := VL (rd_u16 (I := J1) p9 r2 b HS.out HR.out)
  go_wp2_with fail
  go_at_call 28
  refine HC.out.mono ?_
  clear HC HS HR
  rintro e w3 ⟨_, _, _, rfl, _, hs, rfl, rfl, b, hR, rfl⟩
  obtain ⟨y3, hx⟩ : ∃ z, z = ((YP (Zl 2 r2).1 : Nat) : Int) := ⟨_, rfl⟩
  obtain ⟨r3, hr⟩ : ∃ z, z = (Zl 2 r2).2 := ⟨_, rfl⟩
  have Zw := YT 2 r2 2 (by decide)
  rw [<- hx] at Zw ⊢
  rw [<- hr] at hR
  obtain ⟨y3a, y3b⟩ := Zw
  have HL := VL (show r3.1.length <= 1500 from (by rw [hr]; exact Nat.le_trans (Ze 2 r2) HL.out))
  replace y3b : y3 <= 65535 := (by have h9 : ((256 ^ 2 : Nat) : Int) = 65536 := (by decide); omega)
  have HXy3 := VL (And.intro hx hr)
  have HS := VL hs
  have HR := VL hR
  clear hx hr hs hR
  have HC := VL (rd_take (I := J1) p9 (4 * y3) r3 b HS.out HR.out (by omega) (by have := HL.out; omega))
  go_wp2_with fail
  go_at_call 27
  refine HC.out.mono ?_
  clear HC HR HS
  rintro e w4 ⟨_, _, _, rfl, _, hs, rfl, A9, c9, b, rfl, hc9, hR, rfl⟩
  obtain ⟨J2, Zd, hs6, hB⟩ := hs.ZR
  have hln := cutS_le (4 * y3) r3
  have hln2 := Ze (4 * y3) r3
  obtain ⟨bo, hbo⟩ : ∃ z, z = (Zl (4 * y3) r3).1 := ⟨_, rfl⟩
  obtain ⟨r4, hr4⟩ : ∃ z, z = (Zl (4 * y3) r3).2 := ⟨_, rfl⟩
  rw [<- hbo] at hB hln ⊢
  rw [<- hr4] at hR hln2
  have HBO := VL (And.intro hbo hr4)
  have HL3 := VL (show bo.length <= 1500 from Nat.le_trans hln HL.out)
  have HL := VL (show r4.1.length <= 1500 from Nat.le_trans hln2 HL.out)
  have HBd := VL (WY (I := J2) p9 r4 b hs6 (hR.mono Zd))
  have HS := VL hs6
  have HR := VL (hR.mono Zd)
  have HLE2 := VL Zd
  have HBB := VL (show Zq J2 A9 bo from hB)
  clear hbo hr4 hln hln2 hs hs6 hR Zd hB
  have HRD := VL (show ∀ l, TL bs l -> ∃ p t, l = Yo qs ++ p :: t /\ (Good p /\ Y6 p /\ p.kind = XR y1 y2 /\ ((bo, false) : RS) = (YH (Zu p), false)) /\ r4 = (t.flatMap ZV, false) from fun l hl => by
   obtain ⟨t, h1, h2⟩ := YZ.out.2.2 l hl
   have h3 := HPOS.out
   rw [h2] at h3
   obtain ⟨p, t', rfl, h4⟩ := Xx h3
   have hm : p ∈ l := by rw [h1]; simp
   have hg := hl.1.2.2.1 p hm
   obtain ⟨⟨a1, a2⟩, a3⟩ := pack_read hg (h2.trans (by rw [h4])) HXy1.out HXy2.out HXy3.out
   obtain ⟨b1, b2⟩ := HBO.out
   rw [a3] at b1 b2
   exact ⟨p, t', h1, ⟨hg, hl.2.1 p hm, by rw [a1, a2]; exact (kind_back hg).symm, by rw [b1]⟩, b2⟩)
  obtain ⟨bd, hbd⟩ : ∃ x, x = r4.2 := ⟨_, rfl⟩
  rw [<- hbd] at HBd
  have HBD := VL hbd
  clear hbd
  have HER := VL (show (bd = true \/ qs.length = 8) -> ∃ J, I.le J /\ St J M w4 /\ ∀ l, ¬ TL bs l from fun h => by
   refine ⟨J2, YZ.out.1.trans HLE2.out, HS.out.drop.drop, fun l hl => ?_⟩
   obtain ⟨p, t, h1, _, h2⟩ := HRD.out l hl
   rcases h with h | h
   ·have h3 := HBD.out
    rw [h, h2] at h3
    cases h3
   have h3 := hl.1.1.2
   rw [h1, List.length_append, List.length_map, h] at h3
   rw [List.length_cons] at h3
   omega)
  cases bd
  case true =>
   obtain ⟨J9, e1, e2, e3⟩ := HER.out (.inl rfl)
   have HF := VL (show ParseOk I M bs (.returned (.tuple #[.slice none 0 0, .int .i64 2])) w4 from ⟨J9, e1, e2, .inl ⟨rfl, e3⟩⟩)
   clear e1 e2 e3
   go_wp2_with (go_at_call 29; refine HBd.out.mono ?_; rintro e w3 ⟨rfl, hw⟩; subst hw)
   go_returns
   exact HF.out
  by_cases h8 : qs.length = 8
  ·skip
   obtain ⟨J9, e1, e2, e3⟩ := HER.out (.inr h8)
   have HF := VL (show ParseOk I M bs (.returned (.tuple #[.slice none 0 0, .int .i64 2])) w4 from ⟨J9, e1, e2, .inl ⟨rfl, e3⟩⟩)
   have h8i : (qs.length : Int) = 8 := by omega
   clear e1 e2 e3
   go_wp2_with (go_at_call 29; refine HBd.out.mono ?_; rintro e w3 ⟨rfl, hw⟩; subst hw)
   go_returns
   exact HF.out
  clear HER
  have HQ8 := VL (show qs.length < 8 by omega)
  obtain ⟨N9, hN⟩ : ∃ n, n = qs.length := ⟨_, rfl⟩
  have h8b : ((N9 : Int) == 8) = false := by rw [beq_eq_false_iff_ne]; omega
  rw [<- hN] at HS hq8 ⊢
  have HN := VL hN
  clear h8 hN
  go_upto_region 10 with (go_at_call 29; refine HBd.out.mono ?_; rintro e w3 ⟨rfl, hw⟩; subst hw)
  clear HBd h8b
  have YM := HS.out
  have HC := VL (rd_new A9 c9 bo YM HBB.out (by have := HL3.out; omega))
  clear HS YM
  go_wp2_with fail
  go_at_call 24
  refine HC.out.mono ?_
  clear HC
  rintro e w5 ⟨_, J3, _, rfl, YL, YM, p2, b2, rfl, hR2, rfl⟩
  have HC := VL (readC J3 _ w5 y1 y2 p2 (bo, false) b2 (fun p => ∃ l t, TL bs l /\ l = Yo qs ++ p :: t) (fun p hp => by
   obtain ⟨l, t, hl, e⟩ := hp
   obtain ⟨p', t', e', hok, _⟩ := HRD.out l hl
   have e2 := e.symm.trans e'
   have e3 := (List.cons.inj (List.append_cancel_left e2)).1
   rw [e3]
   exact hok) ⟨y1a, y1b⟩ (by have := HL3.out; show bo.length <= 2000; omega) YM hR2)
  have HLE3 := VL YL
  clear YM hR2 YL
  go_wp2_with fail
  go_at_call 30
  refine HC.out.mono ?_
  clear HC
  rintro e w6 ⟨J4, pk, vs, rfl, hle4, YM, hin, Yf, hnew, huni⟩
  obtain ⟨rA, rz, e1, cr, kr⟩ := hin.r
  obtain ⟨sA, sz, e2, cs, ks⟩ := hin.s
  obtain ⟨qA, qz, e3, cq, kq⟩ := hin.q
  obtain ⟨aA, az, e4, ca, ka⟩ := hin.a
  obtain ⟨wA, wz, e5, cw, kw⟩ := hin.w
  obtain ⟨vr, vs', vq, va, vw⟩ := vs
  dsimp only at e1 e2 e3 e4 e5
  subst e1 e2 e3 e4 e5
  obtain ⟨pv, hpv⟩ : ∃ z : Vs, z = ⟨.slice rA pk.ZE.length rz, .slice sA pk.ZG.length sz, .slice qA pk.ZH.length qz, .slice aA pk.ZF.length az, .slice wA pk.ZB.length wz⟩ := ⟨_, rfl⟩
  have HPK := VL (And.intro hin (And.intro Yf (And.intro hnew (And.intro huni hpv))))
  have HLE4 := VL hle4
  clear hin Yf hnew huni hle4 cr cs cq ca cw kr ks kq ka kw hpv
  have XE := YM.ZQ.grow (.cells (WU pk ⟨.slice rA pk.ZE.length rz, .slice sA pk.ZG.length sz, .slice qA pk.ZH.length qz, .slice aA pk.ZF.length az, .slice wA pk.ZB.length wz⟩) 51)
  have Yu := YM.Yw (P := Try.prog) (t := 29) (e := 51) (cs := (WU pk ⟨.slice rA pk.ZE.length rz, .slice sA pk.ZG.length sz, .slice qA pk.ZH.length qz, .slice aA pk.ZF.length az, .slice wA pk.ZB.length wz⟩)) (n := 1) (size := 16) rfl (by decide) Try.underlying29 (by simp [Value.oneCell'])
  obtain ⟨i0, hi0, hz0, hz1, hz2⟩ := info_parts info51
  go_wp2_with (at_builtin; refine Zj _ rfl _ _ 29 29 rfl 0 51 i0 (.agg Z51) 16 192 Try.underlying29 hi0 hz0 hz1 hz2 rfl _ N9 (flat pvC qs) rfl XE.head _ 1 _ rfl Yu (by have := HQ8.out; have := HN.out; unfold maxLen; omega) (by omega) (Nat.zero_le _) ?_)
  intro v' w7 Z9 Zr hat
  have Zb : w7.ownsRow 0 51 16 v' (N9 + 1) (flat pvC (qs ++ [(pk, pv)])) := by rw [Z7, HPK.out.2.2.2.2]; simpa [flat] using Z9
  obtain ⟨A10, c10, rfl⟩ := ZW Zb
  have HS6 := VL (XE.grown Zr Zb (by simpa using hat)).ZQ
  clear Z9 Zb Zr hat Yu XE YM
  go_wp2
  go_roundw
  case rel =>
   have hql : (qs ++ [(pk, pv)]).length = N9 + 1 := by rw [List.length_append, <- HN.out]; rfl
   refine ⟨qs ++ [(pk, pv)], A10, c10, r4, b, J4, by rw [hql], VL ⟨((YZ.out.1.trans HLE2.out).trans HLE3.out).trans HLE4.out, by rw [hql]; exact HS6.out, (HR.out.mono HLE3.out).mono HLE4.out, HL.out, by rw [hql]; have := HQ8.out; have := HN.out; omega, fun x hx => ?_, fun l hl => ?_⟩⟩
   ·rcases List.mem_append.1 hx with hx | hx
    ·obtain ⟨h1, h2, h3⟩ := YZ.out.2.1 x hx
     have Z5 := (HLE2.out.trans HLE3.out).trans HLE4.out
     refine ⟨h1.mono Z5, h2, ?_⟩
     rcases h3 with h3 | h3
     ·exact .inl h3
     exact .inr (h3.weak (.refl I) Z5 (fun r hr => hr))
    rw [List.mem_singleton.1 hx]
    obtain ⟨h1, h2, h3, h4, h5⟩ := HPK.out
    rw [h5]
    refine ⟨h1, h2, ?_⟩
    rcases h3 with h3 | h3
    ·exact .inl h3
    exact .inr (h3.weak ((YZ.out.1.trans HLE2.out).trans HLE3.out) (.refl _) (fun r hr => List.mem_cons_of_mem _ (List.mem_cons_of_mem _ hr)))
   obtain ⟨p, t, h1, h2, h3⟩ := HRD.out l hl
   have h4 := HPK.out.2.2.2.1 p ⟨l, t, hl, h1⟩
   exact ⟨t, by rw [h1, <- h4]; simp [Yo], h3⟩
  case measure =>
   have := HQ8.out
   have := HN.out
   simp only [lenOf]
   omega
theorem pack_at {p : Pk} {bs t : List UInt8} {i : Nat} (hg : Good p) (hi : i + 4 <= bs.length) (h : bs.drop i = ZV p ++ t) : ((ZV p).length : Int) = 4 + 4 * Yl bs (i + 2) 2 := by
 have hl := XB hg
 have hw : 0 <= (Z8 p.kind).1 /\ (Z8 p.kind).1 <= 255 := by
  have hk := hg.1
  unfold YF at hk
  rcases (show p.kind = 1 \/ p.kind = 2 \/ p.kind = 3 \/ p.kind = 4 \/ p.kind = 5 \/ p.kind = 6 \/ p.kind = 7 \/ p.kind = 8 by omega) with h | h | h | h | h | h | h | h
  all_goals (rw [h]; simp [Z8])
 have hb := Xt hg
 have he := Xr (Zu p)
 have hm := evenL_len (Zu p)
 have hr : ((bs.drop i, false) : RS) = (ZV p ++ t, false) := by rw [h]
 obtain ⟨a1, hr1⟩ := Wd (y := 128 + XV p) (t := [byteOf (Z8 p.kind).1] ++ (Zi ((YH (Zu p)).length / 4 : Nat) ++ (YH (Zu p) ++ t))) (rdA1 (bs := bs) (i := i) (by omega)) (by omega) (hr.trans (by simp [ZV]))
 obtain ⟨a2, hr2⟩ := Wd (y := (Z8 p.kind).1) (rdA1 (bs := bs) (i := i + 1) (by omega)) hw hr1
 obtain ⟨a3, hr3⟩ := WN (rdA2 (bs := bs) (i := i + 2) (by omega)) (by omega) hr2
 rw [a3]
 unfold ZV
 simp only [List.length_append, List.length_cons, List.length_nil, Zz]
 omega
def Xv (I : Zh) (M : List Zt) (bs : List UInt8) (e : Ending) (w' : World) : Prop :=
 ∃ J, I.le J /\ St J M w' /\ ((e = .returned (.tuple #[.slice none 0 0, .int .i64 2]) /\ ∀ l, ¬ TL bs l) \/
  ∃ B c qs, e = .returned (.tuple #[.slice B qs.length c, .int .i64 0]) /\ Pks J B qs /\ Xh (Yo qs) /\ (Yo qs).flatMap ZV = bs)
set_option maxRecDepth 100000 in
set_option maxHeartbeats 20000000 in
theorem refParseC (I : Zh) (M : List Zt) (w : World) (A0 : Option Addr) (c : Nat) (bs : List UInt8) (hbs : Zq I A0 bs) (hc : bs.length <= c) (hlen : bs.length <= 140737488351232) (ZX : St I M w) :
  Calls Try.prog 13 #[.slice A0 bs.length c] w (Xv I M bs) := by
 have HB := VL hbs
 have HS := VL ZX
 obtain ⟨n, hn⟩ : ∃ z, z = bs.length := ⟨_, rfl⟩
 have HN := VL hn
 rw [<- hn] at hc hlen ⊢
 obtain ⟨fs, hd⟩ := st56D
 clear hbs ZX hn
 go_enter Try.func13, Try.ntmps13
 go_upto_region 3 with fail
 have Yu := HS.out.nil (e := 56) (size := 16)
 clear HS
 have HS := VL Yu
 clear Yu
 go_loopw [4, 5] (fun lv av wr => ∃ (qs : List (Pk × Vs)) (B : Option Addr) (cB i : Nat) (J : Zh), lv = .slice B qs.length cB /\ av = .int .i64 i /\ i <= n /\ Hid (I.le J /\ St J (row 56 16 (.slice B qs.length cB) qs.length (flat pvC qs) :: M) wr /\ qs.length <= 8 /\ (∀ x ∈ qs, PkIn J x.1 x.2 /\ W9 x.1) /\ ∀ l, TL bs l -> ∃ t, l = Yo qs ++ t /\ bs.drop i = t.flatMap ZV)) (fun _ av _ => n - (intOf av).toNat)
 case atStart => exact ⟨[], none, 0, 0, I, rfl, rfl, Nat.zero_le _, VL ⟨.refl I, HS.out, by simp, (fun x hx => by cases hx), fun l hl => ⟨l, rfl, by rw [hl.2.2]; rfl⟩⟩⟩
 case round =>
  obtain ⟨qs, B, cB, i, J, rfl, rfl, hi, hh⟩ := hrel
  obtain ⟨Z5, hs, hq8, hall, ht⟩ := hh.out
  clear hh HS
  have HS := VL hs
  have YZ := VL (And.intro Z5 (And.intro hall ht))
  clear hs Z5 hall ht
  by_cases Z0 : i < n
  ·skip
   have VK : (i : Int) < (n : Int) := by omega
   have HHD := VL (show ∀ l, TL bs l -> ∃ p t, l = Yo qs ++ p :: t /\ Good p /\ Y6 p /\ bs.drop i = ZV p ++ t.flatMap ZV /\ qs.length < 8 /\ i + (ZV p).length <= n from fun l hl => by
    obtain ⟨t, h1, h2⟩ := YZ.out.2.2 l hl
    have h3 := congrArg List.length h2
    rw [List.length_drop, <- HN.out] at h3
    obtain ⟨p, t', rfl, h4⟩ := Xx (f := ZV) (l := t) (by omega)
    have hm : p ∈ l := by rw [h1]; simp
    have h5 := hl.1.1.2
    rw [h1, List.length_append, List.length_map, List.length_cons] at h5
    rw [h4] at h2 h3
    rw [List.length_append] at h3
    exact ⟨p, t', h1, hl.1.2.2.1 p hm, hl.2.1 p hm, h2, by omega, by omega⟩)
   obtain ⟨g, o, rfl, _⟩ := HB.out.at (by rw [<- HN.out]; omega)
   rcases Nat.lt_or_ge n (i + 4) with h4 | h4
   ·have h4i : (n : Int) < (i : Int) + 4 := by omega
    have HF := VL (show Xv I M bs (.returned (.tuple #[.slice none 0 0, .int .i64 2])) wr from ⟨_, YZ.out.1, HS.out.drop, .inl ⟨rfl, fun l hl => by obtain ⟨p, t, _, hg, _, _, _, h⟩ := HHD.out l hl; have := (pack_len hg).1; omega⟩⟩)
    go_wp2
    go_returns
    exact HF.out
   have h4i : ¬ (n : Int) < (i : Int) + 4 := by omega
   by_cases h8 : qs.length = 8
   ·have h8i : (qs.length : Int) = 8 := by omega
    have HF := VL (show Xv I M bs (.returned (.tuple #[.slice none 0 0, .int .i64 2])) wr from ⟨_, YZ.out.1, HS.out.drop, .inl ⟨rfl, fun l hl => by obtain ⟨p, t, _, hg, _, _, h, _⟩ := HHD.out l hl; omega⟩⟩)
    go_wp2
    go_returns
    exact HF.out
   have h8b : ((qs.length : Int) == 8) = false := by rw [beq_eq_false_iff_ne]; omega
   go_upto_region 6 with fail
   have hcj : ¬ c = i + 2 := by omega
   have hcj2 : i + 4 <= c := by omega
   have hj1 : ((i : Int) + 2).toNat = i + 2 := by omega
   have hj2 : ((i : Int) + 4).toNat = i + 4 := by omega
   have hp2 : 0 <= (i : Int) + 2 := by omega
   have hp4 : 0 <= (i : Int) + 4 := by omega
   have hu4 : (i : Int) + 2 <= (i : Int) + 4 := by omega
   have hcj3 : (i : Int) + 4 <= (c : Int) := by omega
   have hcj4 : i + 4 - (i + 2) = 2 := by omega
   have HC := numAtC J _ wr g o c bs (i + 2) 2 (HB.out.mono YZ.out.1) (by rw [<- HN.out]; exact hc) (by decide) (by decide) (by rw [<- HN.out]; omega) HS.out
   obtain ⟨Y, hx⟩ : ∃ z, z = Yl bs (i + 2) 2 := ⟨_, rfl⟩
   have hr := nmA_2 bs (i + 2)
   rw [<- hx] at HC hr
   obtain ⟨hY0, hY1⟩ := hr
   obtain ⟨Y, rfl⟩ := Int.eq_ofNat_of_zero_le hY0
   have HC := VL HC
   have HY := VL hx
   clear hx
   go_wp2_with fail
   go_at_call 22
   refine HC.out.mono ?_
   clear HC
   rintro e9 w9 ⟨rfl, hw⟩
   subst hw
   clear hcj hcj2 hcj3 hcj4 hj1 hj2 hp2 hp4 hu4 h8b h4i
   obtain ⟨k, hk⟩ : ∃ z, z = 4 + 4 * Y := ⟨_, rfl⟩
   have hki : 4 + 4 * (Y : Int) = (k : Int) := by omega
   have HK := VL hk
   have hkb : k <= 262144 := by omega
   have hk4 : 4 <= k := by omega
   clear hk
   have HHD := VL (show ∀ l, TL bs l -> ∃ p t, l = Yo qs ++ p :: t /\ Good p /\ Y6 p /\ bs.drop i = ZV p ++ t.flatMap ZV /\ i + k <= n /\ (ZV p).length = k from fun l hl => by
    obtain ⟨p, t, h1, hg, hok, h2, _, h3⟩ := HHD.out l hl
    have h5 := pack_at hg (by rw [<- HN.out]; omega) h2
    rw [<- HY.out] at h5
    have := HK.out
    exact ⟨p, t, h1, hg, hok, h2, by omega, by omega⟩)
   rcases Nat.lt_or_ge n (i + k) with hnk | hnk
   ·have hnki : (n : Int) < (i : Int) + (k : Int) := by omega
    have HF := VL (show Xv I M bs (.returned (.tuple #[.slice none 0 0, .int .i64 2])) wr from ⟨_, YZ.out.1, HS.out.drop, .inl ⟨rfl, fun l hl => by obtain ⟨p, t, _, _, _, _, h, _⟩ := HHD.out l hl; omega⟩⟩)
    go_wp2
    go_returns
    exact HF.out
   have hnki : ¬ (n : Int) < (i : Int) + (k : Int) := by omega
   have hck : ¬ c = i := by omega
   have hck2 : i + k <= c := by omega
   have hck3 : (i : Int) + (k : Int) <= (c : Int) := by omega
   have hck4 : i + k - i = k := by omega
   have hln : ((bs.drop i).take k).length = k := by rw [List.length_take, List.length_drop, <- HN.out]; omega
   have HC := refReadC J _ wr g (o + i) (c - i) ((bs.drop i).take k) (fun p => ∃ l t, TL bs l /\ l = Yo qs ++ p :: t) ((HB.out.mono YZ.out.1).at_part i k (by rw [<- HN.out]; exact hc) (by rw [<- HN.out]; omega)) (by rw [hln]; omega) (by rw [hln]; omega) (by rw [hln]; omega) (fun p hp => by
    obtain ⟨l, t, hl, e⟩ := hp
    obtain ⟨p', t', e', hg, hok, h2, _, h3⟩ := HHD.out l hl
    have e3 := (List.cons.inj (List.append_cancel_left (e.symm.trans e'))).1
    subst e3
    refine ⟨hg, hok, ?_⟩
    rw [h2, <- h3, List.take_left]) HS.out
   rw [hln] at HC
   have HC := VL HC
   clear hln
   go_wp2_with fail
   go_at_call 23
   refine HC.out.mono ?_
   clear HC HS
   rintro e w5 ⟨J2, pk, vs, ok, rfl, Zd, YN, hin, Yf, huni⟩
   clear hck hck2 hck3 hck4 hnki
   have HLE2 := VL Zd
   obtain ⟨rA, rz, e1, cr, kr⟩ := hin.r
   obtain ⟨sA, sz, e2, cs, ks⟩ := hin.s
   obtain ⟨qA, qz, e3, cq, kq⟩ := hin.q
   obtain ⟨aA, az, e4, ca, ka⟩ := hin.a
   obtain ⟨wA, wz, e5, cw, kw⟩ := hin.w
   obtain ⟨vr, vs', vq, va, vw⟩ := vs
   dsimp only at e1 e2 e3 e4 e5
   subst e1 e2 e3 e4 e5
   obtain ⟨pv, hpv⟩ : ∃ z : Vs, z = ⟨.slice rA pk.ZE.length rz, .slice sA pk.ZG.length sz, .slice qA pk.ZH.length qz, .slice aA pk.ZF.length az, .slice wA pk.ZB.length wz⟩ := ⟨_, rfl⟩
   have HPK := VL (And.intro hin (And.intro Yf (And.intro huni hpv)))
   clear hin Yf huni cr cs cq ca cw kr ks kq ka kw
   cases ok
   ·skip
    have Zf := (YN.alloc 56 #[.int .i64 pk.kind, .int .u32 pk.ZA, .int .u32 pk.ZC, .int .u64 pk.ZN, .int .u32 pk.ZP, .int .u32 pk.ZI, .int .u32 pk.ZJ, .slice rA pk.ZE.length rz, .string pk.name, .slice sA pk.ZG.length sz, .slice qA pk.ZH.length qz, .int .u16 pk.base, .int .u32 pk.ref, .int .u8 pk.count, .slice aA pk.ZF.length az, .slice wA pk.ZB.length wz]).drop.drop
    have HF := VL (show Xv I M bs (.returned (.tuple #[.slice none 0 0, .int .i64 2])) _ from ⟨_, YZ.out.1.trans HLE2.out, Zf, .inl ⟨rfl, fun l hl => by obtain ⟨p, t, e, _⟩ := HHD.out l hl; have := (HPK.out.2.2.1 p ⟨l, t, hl, e⟩).1; cases this⟩⟩)
    clear hpv YN Zf
    go_wp2
    go_returns
    exact HF.out
   obtain ⟨q7, hq7⟩ : ∃ q, q = w5.heap.size := ⟨_, rfl⟩
   have Zf := YN.alloc 56 #[.int .i64 pk.kind, .int .u32 pk.ZA, .int .u32 pk.ZC, .int .u64 pk.ZN, .int .u32 pk.ZP, .int .u32 pk.ZI, .int .u32 pk.ZJ, .slice rA pk.ZE.length rz, .string pk.name, .slice sA pk.ZG.length sz, .slice qA pk.ZH.length qz, .int .u16 pk.base, .int .u32 pk.ref, .int .u8 pk.count, .slice aA pk.ZF.length az, .slice wA pk.ZB.length wz]
   rw [<- hq7] at Zf
   go_upto_region 12 with fail
   rw [<- hq7]
   clear hq7 YN hpv
   generalize World.alloc w5 _ = W6 at Zf ⊢
   have XE := Zf.ZQ.grow (.cells #[.int .i64 pk.kind, .int .u32 pk.ZA, .int .u32 pk.ZC, .int .u64 pk.ZN, .int .u32 pk.ZP, .int .u32 pk.ZI, .int .u32 pk.ZJ, .slice rA pk.ZE.length rz, .string pk.name, .slice sA pk.ZG.length sz, .slice qA pk.ZH.length qz, .int .u16 pk.base, .int .u32 pk.ref, .int .u8 pk.count, .slice aA pk.ZF.length az, .slice wA pk.ZB.length wz] 56)
   have Yu := Zf.Yw (P := Try.prog) (t := 22) (e := 56) (cs := #[.int .i64 pk.kind, .int .u32 pk.ZA, .int .u32 pk.ZC, .int .u64 pk.ZN, .int .u32 pk.ZP, .int .u32 pk.ZI, .int .u32 pk.ZJ, .slice rA pk.ZE.length rz, .string pk.name, .slice sA pk.ZG.length sz, .slice qA pk.ZH.length qz, .int .u16 pk.base, .int .u32 pk.ref, .int .u8 pk.count, .slice aA pk.ZF.length az, .slice wA pk.ZB.length wz]) (n := 1) (size := 16) rfl (by decide) Try.underlying22 (by simp [Value.oneCell'])
   have hb : ZO W6 q7 56 #[.int .i64 pk.kind, .int .u32 pk.ZA, .int .u32 pk.ZC, .int .u64 pk.ZN, .int .u32 pk.ZP, .int .u32 pk.ZI, .int .u32 pk.ZJ, .slice rA pk.ZE.length rz, .string pk.name, .slice sA pk.ZG.length sz, .slice qA pk.ZH.length qz, .int .u16 pk.base, .int .u32 pk.ref, .int .u8 pk.count, .slice aA pk.ZF.length az, .slice wA pk.ZB.length wz] := Zf.at 0 rfl
   obtain ⟨i0, hi0, hz0, hz1, hz2⟩ := info_parts info56
   go_wp2_with (first | refine wpList_load_row rfl 56 (.tmp 7) rfl q7 rfl 56 _ (0, 0) _ hb hd rfl Zn ?_ | (at_builtin; refine Zj _ rfl _ _ 22 22 rfl 0 56 i0 (.agg Z51) 16 192 Try.underlying22 hi0 hz0 hz1 hz2 rfl _ qs.length (flat pvC qs) rfl XE.head _ 1 _ rfl Yu (by unfold maxLen; omega) (by omega) (Nat.zero_le _) ?_))
   intro v' w7 Z9 Zr hat
   have Zb : w7.ownsRow 0 56 16 v' (qs.length + 1) (flat pvC (qs ++ [(pk, pv)])) := by rw [Z7, HPK.out.2.2.2]; simpa [flat] using Z9
   obtain ⟨A10, c10, rfl⟩ := ZW Zb
   have HS6 := VL (XE.grown Zr Zb (by simpa using hat)).ZQ.drop
   clear Z9 Zb Zr hat Yu XE hb Zf
   go_wp2
   go_roundw
   case rel =>
    have hql : (qs ++ [(pk, pv)]).length = qs.length + 1 := by rw [List.length_append]; rfl
    have Z5 := HLE2.out
    refine ⟨qs ++ [(pk, pv)], A10, c10, i + k, J2, by rw [hql], by go_num, by omega, VL ⟨YZ.out.1.trans Z5, by rw [hql]; exact HS6.out, by rw [hql]; omega, fun x hx => ?_, fun l hl => ?_⟩⟩
    ·rcases List.mem_append.1 hx with hx | hx
     ·obtain ⟨h1, h2⟩ := YZ.out.2.1 x hx
      exact ⟨h1.mono Z5, h2⟩
     rw [List.mem_singleton.1 hx]
     obtain ⟨h1, h2, _, h5⟩ := HPK.out
     rw [h5]
     exact ⟨h1, h2⟩
    obtain ⟨p, t, h1, hg, hok, h2, _, h3⟩ := HHD.out l hl
    have h4 := (HPK.out.2.2.1 p ⟨l, t, hl, h1⟩).2
    refine ⟨t, by rw [h1, <- h4]; simp [Yo], ?_⟩
    rw [<- List.drop_drop, h2, <- h3, List.drop_left]
   case measure => simp [intOf]; omega
  obtain rfl : i = n := by omega
  have VK : ¬ (i : Int) < (i : Int) := by omega
  obtain ⟨J2, Zd, YN, hcl⟩ := HS.out.ZR
  have hpk : Pks J2 B qs := ⟨hcl, fun x hx => ⟨(YZ.out.2.1 x hx).1.mono Zd, (YZ.out.2.1 x hx).2⟩, by omega⟩
  have HT := VL (show ∀ l, TL bs l -> l = Yo qs from fun l hl => by
   obtain ⟨t, h1, h2⟩ := YZ.out.2.2 l hl
   have h3 := congrArg List.length h2
   rw [List.length_drop, <- HN.out, Nat.sub_self] at h3
   rw [h1, VJ pack_pos h3.symm, List.append_nil])
  have HC := VL (refBuildC J2 _ _ B cB qs hpk YN)
  have HPK := VL (And.intro hpk Zd)
  clear HS YN hpk Zd hcl
  go_wp2_with fail
  go_at_call 10
  refine HC.out.mono ?_
  clear HC
  rintro e w4 ⟨_, J3, M3, rfl, YL, Zf, Wo⟩
  rcases Wo with ⟨Wo, u, rfl, rfl⟩ | ⟨Wo, rfl, hM3⟩
  rotate_left
  ·rw [hM3] at Zf
   have HF := VL (show Xv I M bs (.returned (.tuple #[.slice none 0 0, .int .i64 2])) w4 from ⟨_, (YZ.out.1.trans HPK.out.2).trans YL, Zf, .inl ⟨rfl, fun l hl => Wo (HT.out l hl ▸ hl.1)⟩⟩)
   clear Zf Wo hM3 YL
   go_wp2
   go_returns
   exact HF.out
  obtain ⟨uA, uc, rfl⟩ := ZW (show World.ownsRow _ 0 5 1 u _ _ from Zf.at 0 rfl)
  obtain ⟨J4, hle4, Zv, hby⟩ := Zf.ZR
  have hby : Zq J4 uA ((Yo qs).flatMap ZV) := hby
  have hIJ := ((YZ.out.1.trans HPK.out.2).trans YL).trans hle4
  obtain ⟨ob, hob⟩ : ∃ z, z = (Yo qs).flatMap ZV := ⟨_, rfl⟩
  rw [<- hob] at hby Zf ⊢
  have hv1 := hby.conv Zv Try.underlying24 Try.underlying5 Try.underlying9 uc
  have hv2 := (HB.out.mono hIJ).conv Zv Try.underlying24 Try.underlying5 Try.underlying9 c
  rw [<- HN.out] at hv2
  by_cases hq : bs = ob
  ·skip
   have HF := VL (show Xv I M bs (.returned (.tuple #[.slice B qs.length cB, .int .i64 0])) w4 from ⟨J4, hIJ, Zv, .inr ⟨B, cB, qs, rfl, HPK.out.1.mono (YL.trans hle4), Wo, by rw [<- hob, hq]⟩⟩)
   rw [hq] at hv2
   clear Zf Zv hby hIJ YL hle4 Wo hob hq
   go_wp2
   go_returns
   exact HF.out
  have HF := VL (show Xv I M bs (.returned (.tuple #[.slice none 0 0, .int .i64 2])) w4 from ⟨J4, hIJ, Zv, .inl ⟨rfl, fun l hl => hq (by rw [hob, <- HT.out l hl]; exact hl.2.2.symm)⟩⟩)
  have hbq : (ob == bs) = false := by rw [beq_eq_false_iff_ne]; exact fun h => hq h.symm
  clear Zf Zv hby hIJ YL hle4 Wo hob hq
  go_wp2
  go_returns
  exact HF.out
end Go.Proofs.Ytddopbbmgpnjjaa
