/- part. -/
import Derived.Test.YtddopbbmgpnjjaaZT20
import Derived.Laws.ResultCell
namespace Go.Proofs.Ytddopbbmgpnjjaa
set_option linter.unusedSimpArgs false
open Go.RowKit
theorem info64 : (Try.prog.info? 64).map (fun i => (i.zero, i.size, i.bytes)) = some (some (.agg #[.int .u32 0, .int .u8 0, .int .u32 0, .int .u32 0, .int .u32 0, .int .u32 0, .int .u32 0]), 7, 28) := by kernel_rfl
theorem info67 : (Try.prog.info? 67).map (fun i => (i.zero, i.size, i.bytes)) = some (some (.agg #[.int .u32 0, .int .u8 0]), 2, 8) := by kernel_rfl
theorem info56 : (Try.prog.info? 56).map (fun i => (i.zero, i.size, i.bytes)) = some (some (.agg Z51), 16, 192) := by kernel_rfl
set_option maxRecDepth 100000 in
set_option maxHeartbeats 40000000 in
theorem oursC (I : Zh) (M : List Zt) (w : World) (A : Option Addr) (z : Nat) (ps : List (Pk × Vs)) (hp : Pks I A ps) (hlen : ps.length * 192 <= 140737488351232) (ZX : St I M w) :
  Calls Try.prog 16 #[.slice A ps.length z] w (fun e w' => ∃ J B c qs, e = .returned (.slice B ps.length c) /\ I.le J /\ St J M w' /\ Pks J B qs /\ Yo qs = Yo ps) := by
 have HP := VL hp
 have HS := VL (ZX.nil (e := 56) (size := 16))
 clear hp ZX
 go_enter Try.func16, Try.ntmps16
 go_upto_region 3 with fail
 go_loopw [3, 12] (fun ov iv wr => ∃ (i : Nat) (B : Option Addr) (c : Nat), ov = .slice B i c /\ iv = .int .i64 i /\ i <= ps.length /\ Hid (∃ J qs, I.le J /\ St J (row 56 16 (.slice B i c) i (flat pvC qs) :: M) wr /\ qs.length = i /\ Yo qs = (Yo ps).take i /\ ∀ x ∈ qs, PkIn J x.1 x.2 /\ W9 x.1)) (fun _ iv _ => ps.length - (intOf iv).toNat)
 case atStart => exact ⟨0, none, 0, rfl, rfl, by omega, VL ⟨I, [], .refl I, HS.out, rfl, by simp, fun x hx => by cases hx⟩⟩
 case round =>
  obtain ⟨i, B, c, rfl, rfl, hi, hh⟩ := hrel
  clear HS
  obtain ⟨J, qs, Z5, hs, hql, hqs, hqe⟩ := hh.out
  clear hh
  have hpl : (Yo ps).length = ps.length := List.length_map ..
  by_cases Z0 : i < ps.length
  ·skip
   obtain ⟨g, o, rfl, ZK⟩ := flat_get (s := 16) (fun _ => rfl) HP.out.cells (by omega) (by decide)
   have hcl := ZK _ _ (hs.less Z5) i Z0
   have hme := (HP.out.mono Z5).each _ (List.getElem_mem Z0)
   have htk : (Yo ps).take (i + 1) = (Yo ps).take i ++ [ps[i].1] := by rw [List.take_succ_eq_append_getElem (by omega)]; simp [Yo]
   clear ZK
   generalize ps[i] = x at hcl hme htk
   obtain ⟨⟨kind, ZA, ZC, ZN, ZP, ZI, ZJ, ZE, name, ZG, ZH, base, ref, count, ZF, ZB⟩, ⟨vr, vs, vq, va, vw⟩⟩ := x
   obtain ⟨⟨hr, hs', hq, ha, hw⟩, Yf⟩ := hme
   dsimp only at hr hs' hq ha hw Yf htk
   obtain ⟨rA, rz, rfl, cr, kr⟩ := hr
   obtain ⟨sA, sz, rfl, cs, ks⟩ := hs'
   obtain ⟨qA, qz, rfl, cq, kq⟩ := hq
   obtain ⟨aA, az, rfl, ca, ka⟩ := ha
   obtain ⟨wA, wz, rfl, cw, kw⟩ := hw
   have y0 : wr.cell? ⟨g, o + i * 16, none⟩ = some (.int .i64 kind) := hcl 0 (by decide)
   have y1 : wr.cell? ⟨g, o + i * 16 + 1, none⟩ = some (.int .u32 ZA) := hcl 1 (by decide)
   have y2 : wr.cell? ⟨g, o + i * 16 + 2, none⟩ = some (.int .u32 ZC) := hcl 2 (by decide)
   have y3 : wr.cell? ⟨g, o + i * 16 + 3, none⟩ = some (.int .u64 ZN) := hcl 3 (by decide)
   have y4 : wr.cell? ⟨g, o + i * 16 + 4, none⟩ = some (.int .u32 ZP) := hcl 4 (by decide)
   have y5 : wr.cell? ⟨g, o + i * 16 + 5, none⟩ = some (.int .u32 ZI) := hcl 5 (by decide)
   have y6 : wr.cell? ⟨g, o + i * 16 + 6, none⟩ = some (.int .u32 ZJ) := hcl 6 (by decide)
   have y7 : wr.cell? ⟨g, o + i * 16 + 7, none⟩ = some (.slice rA ZE.length rz) := hcl 7 (by decide)
   have y8 : wr.cell? ⟨g, o + i * 16 + 8, none⟩ = some (.string name) := hcl 8 (by decide)
   have y9 : wr.cell? ⟨g, o + i * 16 + 9, none⟩ = some (.slice sA ZG.length sz) := hcl 9 (by decide)
   have y10 : wr.cell? ⟨g, o + i * 16 + 10, none⟩ = some (.slice qA ZH.length qz) := hcl 10 (by decide)
   have y11 : wr.cell? ⟨g, o + i * 16 + 11, none⟩ = some (.int .u16 base) := hcl 11 (by decide)
   have y12 : wr.cell? ⟨g, o + i * 16 + 12, none⟩ = some (.int .u32 ref) := hcl 12 (by decide)
   have y13 : wr.cell? ⟨g, o + i * 16 + 13, none⟩ = some (.int .u8 count) := hcl 13 (by decide)
   have y14 : wr.cell? ⟨g, o + i * 16 + 14, none⟩ = some (.slice aA ZF.length az) := hcl 14 (by decide)
   have y15 : wr.cell? ⟨g, o + i * 16 + 15, none⟩ = some (.slice wA ZB.length wz) := hcl 15 (by decide)
   have YZ := VL (And.intro hql (And.intro hqs (And.intro hqe (And.intro htk Yf))))
   have HCC := VL (And.intro cr (And.intro cs (And.intro cq (And.intro ca cw))))
   have HKK := VL (And.intro kr (And.intro ks (And.intro kq (And.intro ka kw))))
   have ZY := hs.alloc 51 #[.int .i64 kind, .int .u32 ZA, .int .u32 ZC, .int .u64 ZN, .int .u32 ZP, .int .u32 ZI, .int .u32 ZJ, .slice rA ZE.length rz, .string name, .slice sA ZG.length sz, .slice qA ZH.length qz, .int .u16 base, .int .u32 ref, .int .u8 count, .slice aA ZF.length az, .slice wA ZB.length wz]
   obtain ⟨q, hq⟩ : ∃ q, q = wr.heap.size := ⟨_, rfl⟩
   rw [<- hq] at ZY
   have HST := VL ZY
   have HLE := VL Z5
   clear hs ZY Z5 hql hqs hqe htk Yf cr cs cq ca cw kr ks kq ka kw hcl
   go_upto_region 6 with fail
   rw [<- hq]
   generalize World.alloc wr _ = W at HST ⊢
   clear y0 y1 y2 y3 y4 y5 y6 y7 y8 y9 y10 y11 y12 y13 y14 y15 hq
   obtain ⟨hcq, hfq, hlq⟩ := ZO.all (HST.out.at 0 rfl)
   have Zf := HST.out.alloc 56 #[.int .i64 kind, .int .u32 ZA, .int .u32 ZC, .int .u64 ZN, .int .u32 ZP, .int .u32 ZI, .int .u32 ZJ, (.slice none 0 0), .string name, .slice sA ZG.length sz, .slice qA ZH.length qz, .int .u16 base, .int .u32 ref, .int .u8 count, .slice aA ZF.length az, (.slice none 0 0)]
   obtain ⟨p, hp⟩ : ∃ p, p = W.heap.size := ⟨_, rfl⟩
   rw [<- hp] at Zf
   go_upto_region 7 with fail
   rw [<- hp]
   clear hcq hfq hlq hp
   have HS := VL Zf
   clear Zf HST
   generalize World.alloc W _ = W2 at HS ⊢
   obtain ⟨hcq, hfq, hlq⟩ := ZO.all (HS.out.at 1 rfl)
   go_upto_region 8 with fail
   clear hcq hfq hlq
   have Yu := HS.out.nil (e := 64) (size := 7)
   have HSR := VL Yu
   clear Yu
   go_loopw [51] (fun kv wr' => ∃ (k : Nat) (B2 : Option Addr) (d2 : Nat), kv = .int .i64 k /\ k <= ZE.length /\ Hid (St J (row 64 7 (.slice B2 k d2) k (flat Yt (ZE.take k)) :: bk p 56 #[.int .i64 kind, .int .u32 ZA, .int .u32 ZC, .int .u64 ZN, .int .u32 ZP, .int .u32 ZI, .int .u32 ZJ, (.slice B2 k d2), .string name, .slice sA ZG.length sz, .slice qA ZH.length qz, .int .u16 base, .int .u32 ref, .int .u8 count, .slice aA ZF.length az, (.slice none 0 0)] :: bk q 51 #[.int .i64 kind, .int .u32 ZA, .int .u32 ZC, .int .u64 ZN, .int .u32 ZP, .int .u32 ZI, .int .u32 ZJ, .slice rA ZE.length rz, .string name, .slice sA ZG.length sz, .slice qA ZH.length qz, .int .u16 base, .int .u32 ref, .int .u8 count, .slice aA ZF.length az, .slice wA ZB.length wz] :: row 56 16 (.slice B i c) i (flat pvC qs) :: M) wr')) (fun kv _ => ZE.length - (intOf kv).toNat)
   case atStart => exact ⟨0, none, 0, rfl, by omega, HSR⟩
   case round =>
    obtain ⟨k, B2, d2, rfl, hk, hh⟩ := hrel
    have hs := hh.out
    clear hh HSR HS
    obtain ⟨hcq, hfq, hlq⟩ := ZO.all (hs.at 2 rfl)
    by_cases hkl : k < ZE.length
    ·skip
     obtain ⟨g2, o2, e2, ZK⟩ := flat_get (s := 7) (fun _ => rfl) (HCC.out.1) (by omega) (by decide)
     have hcl := ZK _ _ hs k hkl
     have HTK := VL (show flat Yt (ZE.take (k + 1)) = flat Yt (ZE.take k) ++ Yt ZE[k] by rw [List.take_succ_eq_append_getElem hkl, Z7]; simp [flat])
     clear ZK
     generalize ZE[k] = y at hcl HTK
     have z0 : wr.cell? ⟨g2, o2 + k * 7, none⟩ = some (.int .u32 y.src) := hcl 0 (by decide)
     have z1 : wr.cell? ⟨g2, o2 + k * 7 + 1, none⟩ = some (.int .u8 y.lost) := hcl 1 (by decide)
     have z2 : wr.cell? ⟨g2, o2 + k * 7 + 2, none⟩ = some (.int .u32 y.total) := hcl 2 (by decide)
     have z3 : wr.cell? ⟨g2, o2 + k * 7 + 3, none⟩ = some (.int .u32 y.high) := hcl 3 (by decide)
     have z4 : wr.cell? ⟨g2, o2 + k * 7 + 4, none⟩ = some (.int .u32 y.Xw) := hcl 4 (by decide)
     have z5 : wr.cell? ⟨g2, o2 + k * 7 + 5, none⟩ = some (.int .u32 y.last) := hcl 5 (by decide)
     have z6 : wr.cell? ⟨g2, o2 + k * 7 + 6, none⟩ = some (.int .u32 y.delay) := hcl 6 (by decide)
     have ZY := hs.alloc 65 #[.int .u32 y.src, .int .u8 y.lost, .int .u32 y.total, .int .u32 y.high, .int .u32 y.Xw, .int .u32 y.last, .int .u32 y.delay]
     obtain ⟨q8, hq8⟩ : ∃ q, q = wr.heap.size := ⟨_, rfl⟩
     rw [<- hq8] at ZY
     have HST := VL ZY
     clear hs ZY hcl
     go_upto_region 11 with fail
     rw [<- hq8]
     obtain ⟨h8, f8, l8⟩ := ZO.all (HST.out.at 0 rfl)
     obtain ⟨hp, fp, lp⟩ := ZO.all (HST.out.at 2 rfl)
     clear z0 z1 z2 z3 z4 z5 z6 hq8 hcq hfq hlq
     have HE2 := VL e2
     clear e2
     generalize World.alloc wr _ = W3 at HST h8 f8 hp fp l8 lp ⊢
     obtain ⟨i0, hi0, hz0, hz1, hz2⟩ := info_parts info64
     have Yu := HST.out.Yw (P := Try.prog) (t := 53) (e := 64) (cs := #[.int .u32 y.src, .int .u8 y.lost, .int .u32 y.total, .int .u32 y.high, .int .u32 y.Xw, .int .u32 y.last, .int .u32 y.delay]) (n := 1) (size := 7) rfl (by decide) Try.underlying53 (by simp [Value.oneCell'])
     have XE := HST.out.ZQ.grow (.cells #[.int .u32 y.src, .int .u8 y.lost, .int .u32 y.total, .int .u32 y.high, .int .u32 y.Xw, .int .u32 y.last, .int .u32 y.delay] 64)
     have WE := VL (show ZE.length * 28 <= 140737488351232 from YZ.out.2.2.2.2.br)
     go_wp2_with (at_builtin; refine Zj _ rfl _ _ 53 53 rfl 0 64 i0 (.agg #[.int .u32 0, .int .u8 0, .int .u32 0, .int .u32 0, .int .u32 0, .int .u32 0, .int .u32 0]) 7 28 Try.underlying53 hi0 hz0 hz1 hz2 rfl _ k (flat Yt (ZE.take k)) rfl XE.head _ 1 _ rfl Yu (by have := WE.out; unfold maxLen; omega) (by have := WE.out; omega) (Nat.zero_le _) ?_)
     intro v' w5 Z9 Zr hat
     have Zb : w5.ownsRow 0 64 7 v' (k + 1) (flat Yt (ZE.take (k + 1))) := by rw [HTK.out]; exact Z9
     obtain ⟨A10, c10, rfl⟩ := ZW Zb
     have Zo := XE.grown Zr Zb (by simpa using hat)
     have HS6 := VL (show St J (row 64 7 (.slice A10 (k + 1) c10) (k + 1) (flat Yt (ZE.take (k + 1))) :: bk p 56 #[.int .i64 kind, .int .u32 ZA, .int .u32 ZC, .int .u64 ZN, .int .u32 ZP, .int .u32 ZI, .int .u32 ZJ, (.slice A10 (k + 1) c10), .string name, .slice sA ZG.length sz, .slice qA ZH.length qz, .int .u16 base, .int .u32 ref, .int .u8 count, .slice aA ZF.length az, (.slice none 0 0)] :: bk q 51 #[.int .i64 kind, .int .u32 ZA, .int .u32 ZC, .int .u64 ZN, .int .u32 ZP, .int .u32 ZI, .int .u32 ZJ, .slice rA ZE.length rz, .string name, .slice sA ZG.length sz, .slice qA ZH.length qz, .int .u16 base, .int .u32 ref, .int .u8 count, .slice aA ZF.length az, .slice wA ZB.length wz] :: row 56 16 (.slice B i c) i (flat pvC qs) :: M) (w5.setCell ⟨p, 7, none⟩ (.slice A10 (k + 1) c10)) from ((Zo.Ya.set 7 (.slice A10 (k + 1) c10)).Ya.ZQ).drop)
     obtain ⟨hp, fp, lp⟩ := ZO.all (Zo.at 2 rfl)
     clear Zo Z9 Zb Zr hat Yu XE h8 f8 l8
     have HK1 := VL (show k + 1 <= ZE.length from hkl)
     have hkb : (k : Int) <= 140737488351232 := by have := WE.out; omega
     go_wp2
     try simp only [<- HE2.out]
     go_roundw
     case rel => exact ⟨k + 1, A10, c10, by go_num, HK1.out, HS6⟩
     case measure => have := HK1.out; simp [intOf]; omega
    have hke : k = ZE.length := by omega
    subst hke
    rw [List.take_length] at hs
    obtain ⟨J2, Zd, hs6, hcr⟩ := hs.ZR
    have hcap := (Yh (show World.ownsRow _ 0 64 7 (.slice B2 ZE.length d2) ZE.length _ from hs.at 0 rfl)).2
    have HRP := VL (And.intro hcr (And.intro hcap Zd))
    have HS := VL hs6
    clear hs hs6 hcr hcap Zd hcq hfq hlq hkl
    obtain ⟨hcq, hfq, hlq⟩ := ZO.all (HS.out.at 1 rfl)
    go_upto_region 14 with fail
    clear hcq hfq hlq
    have Yu := HS.out.nil (e := 67) (size := 2)
    have HSR := VL Yu
    clear Yu
    go_loopw [83] (fun kv wr' => ∃ (k : Nat) (B3 : Option Addr) (d3 : Nat), kv = .int .i64 k /\ k <= ZB.length /\ Hid (St J2 (row 67 2 (.slice B3 k d3) k (flat WO (ZB.take k)) :: bk p 56 #[.int .i64 kind, .int .u32 ZA, .int .u32 ZC, .int .u64 ZN, .int .u32 ZP, .int .u32 ZI, .int .u32 ZJ, (.slice B2 ZE.length d2), .string name, .slice sA ZG.length sz, .slice qA ZH.length qz, .int .u16 base, .int .u32 ref, .int .u8 count, .slice aA ZF.length az, (.slice B3 k d3)] :: bk q 51 #[.int .i64 kind, .int .u32 ZA, .int .u32 ZC, .int .u64 ZN, .int .u32 ZP, .int .u32 ZI, .int .u32 ZJ, .slice rA ZE.length rz, .string name, .slice sA ZG.length sz, .slice qA ZH.length qz, .int .u16 base, .int .u32 ref, .int .u8 count, .slice aA ZF.length az, .slice wA ZB.length wz] :: row 56 16 (.slice B i c) i (flat pvC qs) :: M) wr')) (fun kv _ => ZB.length - (intOf kv).toNat)
    case atStart => exact ⟨0, none, 0, rfl, by omega, HSR⟩
    case round =>
     obtain ⟨k, B3, d3, rfl, hk3, hh⟩ := hrel
     have hs := hh.out
     clear hh HSR HS
     obtain ⟨hcq, hfq, hlq⟩ := ZO.all (hs.at 2 rfl)
     by_cases hkl : k < ZB.length
     ·skip
      obtain ⟨g2, o2, e2, ZK⟩ := flat_get (s := 2) (fun _ => rfl) (HCC.out.2.2.2.2.mono HRP.out.2.2) (by omega) (by decide)
      have hcl := ZK _ _ hs k hkl
      have HTK := VL (show flat WO (ZB.take (k + 1)) = flat WO (ZB.take k) ++ WO ZB[k] by rw [List.take_succ_eq_append_getElem hkl, Z7]; simp [flat])
      have HCE := VL (fun (J9 : Zh) (M9 : List Zt) (w9 : World) (hl9 : J2.le J9) (h : St J9 M9 w9) => ZK _ _ (h.less hl9) k hkl)
      clear ZK
      generalize ZB[k] = y at hcl HTK HCE
      have HST := VL hs
      clear hs hcl
      go_upto_region 16 with fail
      clear hcq hfq hlq
      have YV := VL (fun (M9 : List Zt) (w' : World) (hm1 : bk p 56 #[.int .i64 kind, .int .u32 ZA, .int .u32 ZC, .int .u64 ZN, .int .u32 ZP, .int .u32 ZI, .int .u32 ZJ, (.slice B2 ZE.length d2), .string name, .slice sA ZG.length sz, .slice qA ZH.length qz, .int .u16 base, .int .u32 ref, .int .u8 count, .slice aA ZF.length az, (.slice B3 k d3)] ∈ M9) (hm2 : bk q 51 #[.int .i64 kind, .int .u32 ZA, .int .u32 ZC, .int .u64 ZN, .int .u32 ZP, .int .u32 ZI, .int .u32 ZJ, .slice rA ZE.length rz, .string name, .slice sA ZG.length sz, .slice qA ZH.length qz, .int .u16 base, .int .u32 ref, .int .u8 count, .slice aA ZF.length az, .slice wA ZB.length wz] ∈ M9) (hs : St J2 M9 w') => (show (w'.cell? ⟨p, 15, none⟩ = some (.slice B3 k d3) /\ w'.cell? ⟨q, 15, none⟩ = some (.slice wA ZB.length wz)) /\ w'.cell? ⟨g2, o2 + k * 2, none⟩ = some (.int .u32 y.src) /\ w'.cell? ⟨g2, o2 + k * 2 + 1, none⟩ = some (.int .u8 y.seq) from ⟨⟨(ZO.all (hs.res _ hm1)).1 15, (ZO.all (hs.res _ hm2)).1 15⟩, HCE.out J2 _ _ (.refl _) hs 0 (by decide), HCE.out J2 _ _ (.refl _) hs 1 (by decide)⟩))
      have HE2 := VL e2
      have hjw : IntKind.i64.wrap (k : Int) = (k : Int) := wrap_i64 (by have := YZ.out.2.2.2.2.bw; simp only [] at this; omega) (by have := YZ.out.2.2.2.2.bw; simp only [] at this; omega)
      have hk9 : (k : Int) < (ZB.length : Int) := by omega
      rw [e2] at YV ⊢
      refine YQ (S := fun w' => (w'.cell? ⟨p, 15, none⟩ = some (.slice B3 k d3) /\ w'.cell? ⟨q, 15, none⟩ = some (.slice (some ⟨g2, o2, none⟩) ZB.length wz)) /\ w'.cell? ⟨g2, o2 + k * 2, none⟩ = some (.int .u32 y.src) /\ w'.cell? ⟨g2, o2 + k * 2 + 1, none⟩ = some (.int .u8 y.seq)) (by kernel_rfl) (YV.out _ _ (by simp [e2]) (by simp [e2]) HST.out.drew) (fun ZL => ?_)
      refine wt 0 1 rfl (by kernel_rfl) (fun _ _ _ h => h) rfl ‹_› (by intro w h;go_simp;try with_reducible rfl) ?_
      try go_frame
      refine wt 1 16 rfl (by kernel_rfl) (fun _ _ _ h => h) rfl ‹_› (by intro w h;go_simp;try with_reducible rfl) ?_
      try go_frame
      refine wt 2 3 rfl (by kernel_rfl) (fun _ _ _ h => h) rfl ‹_› (by intro w h;go_simp;try with_reducible rfl) ?_
      try go_frame
      refine wt 3 5 rfl (by kernel_rfl) (fun _ _ _ h => h) rfl ‹_› (by intro w h;go_simp;try with_reducible rfl) ?_
      try go_frame
      refine wt 4 5 rfl (by kernel_rfl) (fun _ _ _ h => h) rfl ‹_› (by intro w h;go_simp;try with_reducible rfl) ?_
      try go_frame
      refine wt 5 6 rfl (by kernel_rfl) (fun _ _ _ h => h) rfl ‹_› (by intro w h;go_simp;try with_reducible rfl) ?_
      try go_frame
      refine wt 6 7 rfl (by kernel_rfl) (fun _ _ _ h => h) rfl ‹_› (by intro w h;go_simp;try with_reducible rfl) ?_
      try go_frame
      refine wt 7 14 rfl (by kernel_rfl) (fun _ _ _ h => h) rfl ‹_› (by intro w h;go_simp;try with_reducible rfl) ?_
      try go_frame
      refine wt 8 9 rfl (by kernel_rfl) (fun _ _ _ h => h) rfl ‹_› (by intro w h;go_simp;try with_reducible rfl) ?_
      try go_frame
      refine wt 9 11 rfl (by kernel_rfl) (fun _ _ _ h => h) rfl ‹_› (by intro w h;go_simp;try with_reducible rfl) ?_
      try go_frame
      refine wt 10 11 rfl (by kernel_rfl) (fun _ _ _ h => h) rfl ‹_› (by intro w h;go_simp;try with_reducible rfl) ?_
      try go_frame
      refine wt 11 12 rfl (by kernel_rfl) (fun _ _ _ h => h) rfl ‹_› (by intro w h;go_simp;try with_reducible rfl) ?_
      try go_frame
      refine wt 12 13 rfl (by kernel_rfl) (fun _ _ _ h => h) rfl ‹_› (by intro w h;go_simp;try with_reducible rfl) ?_
      try go_frame
      refine wt 13 14 rfl (by kernel_rfl) (fun _ _ _ h => h) rfl ‹_› (by intro w h;go_simp;try with_reducible rfl) ?_
      try go_frame
      refine wt 14 15 rfl (by kernel_rfl) (fun _ _ _ h => h) rfl ‹_› (by intro w h;go_simp;try with_reducible rfl) ?_
      try go_frame
      have YM := HST.out.drew
      generalize World.drew _ = W3 at YM ZL ⊢
      refine ZU (i := 15) (o := _) (by kernel_rfl) rfl (fun K hK => ?_)
      go_simp
      have Yu := YM.Yw (P := Try.prog) (t := 54) (e := 67) (cs := #[.int .u32 y.src, .int .u8 y.seq]) (n := 1) (size := 2) rfl (by decide) Try.underlying54 (by simp [Value.oneCell'])
      have XE := YM.grow (.cells #[.int .u32 y.src, .int .u8 y.seq] 67)
      try clear ZL
      refine hK.out _ _ (YV.out _ _ (by simp [e2]) (by simp [e2]) XE) (fun ZL => ?_)
      clear hK K
      try go_frame
      obtain ⟨i0, hi0, hz0, hz1, hz2⟩ := info_parts info67
      have HBW := VL (show ZB.length * 8 <= 140737488351232 from YZ.out.2.2.2.2.bw)
      refine ZU (i := 16) (o := _) (by kernel_rfl) rfl (fun K hK => ?_)
      refine YU _ (by rfl) _ _ 54 54 (by rfl) 0 67 i0 (.agg #[.int .u32 0, .int .u8 0]) 2 8 Try.underlying54 hi0 hz0 hz1 hz2 rfl _ k (flat WO (ZB.take k)) (by rfl) XE.head _ 1 _ (by rfl) Yu (by have := HBW.out; unfold maxLen; omega) (by have := HBW.out; omega) (Nat.zero_le _) ?_
      intro v' w5 Z9 Zr hat
      have Zb : w5.ownsRow 0 67 2 v' (k + 1) (flat WO (ZB.take (k + 1))) := by rw [HTK.out]; exact Z9
      obtain ⟨A10, c10, rfl⟩ := ZW Zb
      have Zo := XE.grown Zr Zb (by simpa using hat)
      try clear ZL
      refine hK.out _ _ (YV.out _ _ (by simp [e2]) (by simp [e2]) Zo) (fun ZL => ?_)
      clear hK K
      try go_frame
      refine wt 17 18 rfl (by kernel_rfl) (fun _ _ _ h => h) rfl ‹_› (by intro w h;go_simp;try with_reducible rfl) ?_
      try go_frame
      have HS6 := VL (show St J2 (row 67 2 (.slice A10 (k + 1) c10) (k + 1) (flat WO (ZB.take (k + 1))) :: bk p 56 #[.int .i64 kind, .int .u32 ZA, .int .u32 ZC, .int .u64 ZN, .int .u32 ZP, .int .u32 ZI, .int .u32 ZJ, (.slice B2 ZE.length d2), .string name, .slice sA ZG.length sz, .slice qA ZH.length qz, .int .u16 base, .int .u32 ref, .int .u8 count, .slice aA ZF.length az, (.slice A10 (k + 1) c10)] :: bk q 51 #[.int .i64 kind, .int .u32 ZA, .int .u32 ZC, .int .u64 ZN, .int .u32 ZP, .int .u32 ZI, .int .u32 ZJ, .slice rA ZE.length rz, .string name, .slice sA ZG.length sz, .slice qA ZH.length qz, .int .u16 base, .int .u32 ref, .int .u8 count, .slice aA ZF.length az, .slice wA ZB.length wz] :: row 56 16 (.slice B i c) i (flat pvC qs) :: M) (w5.setCell ⟨p, 15, none⟩ (.slice A10 (k + 1) c10)) from ((Zo.ZQ.set 15 (.slice A10 (k + 1) c10)).ZQ))
      obtain ⟨hp, fp, lp⟩ := ZO.all (Zo.at 1 rfl)
      refine Yi (i := 18) (o := _) (by kernel_rfl) rfl (by kernel_rfl) (by kernel_rfl) (fun K hK => ?_)
      go_simp
      try clear ZL
      refine hK.out _ _ ?_
      clear hK K
      try go_frame
      have HK1 := VL (show k + 1 <= ZB.length from hkl)
      have hkb : (k : Int) <= 140737488351232 := by have := HBW.out; omega
      clear Zo Z9 Zb Zr hat Yu XE YM hp fp lp
      rw [<- HE2.out]
      clear e2
      go_wp2
      go_roundw
      case rel => exact ⟨k + 1, A10, c10, by go_num, HK1.out, HS6⟩
      case measure => have := HK1.out; simp [intOf]; omega
     have hke : k = ZB.length := by omega
     subst hke
     rw [List.take_length] at hs
     obtain ⟨J3, YL, hs6, hcr⟩ := hs.ZR
     have hcap := (Yh (show World.ownsRow _ 0 67 2 (.slice B3 ZB.length d3) ZB.length _ from hs.at 0 rfl)).2
     have HWP := VL (And.intro hcr (And.intro hcap YL))
     have HS := VL hs6
     clear hs hs6 hcr hcap YL hcq hfq hlq hkl
     obtain ⟨hcq, hfq, hlq⟩ := ZO.all (HS.out.at 0 rfl)
     have YM := HS.out.Ya.grow (.cells #[.int .i64 kind, .int .u32 ZA, .int .u32 ZC, .int .u64 ZN, .int .u32 ZP, .int .u32 ZI, .int .u32 ZJ, (.slice B2 ZE.length d2), .string name, .slice sA ZG.length sz, .slice qA ZH.length qz, .int .u16 base, .int .u32 ref, .int .u8 count, .slice aA ZF.length az, (.slice B3 ZB.length d3)] 56)
     have Yu := HS.out.Yw (P := Try.prog) (t := 22) (e := 56) (cs := #[.int .i64 kind, .int .u32 ZA, .int .u32 ZC, .int .u64 ZN, .int .u32 ZP, .int .u32 ZI, .int .u32 ZJ, (.slice B2 ZE.length d2), .string name, .slice sA ZG.length sz, .slice qA ZH.length qz, .int .u16 base, .int .u32 ref, .int .u8 count, .slice aA ZF.length az, (.slice B3 ZB.length d3)]) (n := 1) (size := 16) rfl (by decide) Try.underlying22 (by simp [Value.oneCell'])
     obtain ⟨i0, hi0, hz0, hz1, hz2⟩ := info_parts info56
     go_wp2_with (at_builtin; refine Zj _ rfl _ _ 22 22 rfl 0 56 i0 (.agg Z51) 16 192 Try.underlying22 hi0 hz0 hz1 hz2 rfl _ i (flat pvC qs) rfl YM.head _ 1 _ rfl Yu (by unfold maxLen; omega) (by omega) (Nat.zero_le _) ?_)
     intro v' w5 Z9 Zr hat
     have Zb : w5.ownsRow 0 56 16 v' (i + 1) (flat pvC (qs ++ [((⟨kind, ZA, ZC, ZN, ZP, ZI, ZJ, ZE, name, ZG, ZH, base, ref, count, ZF, ZB⟩ : Pk), (⟨.slice B2 ZE.length d2, .slice sA ZG.length sz, .slice qA ZH.length qz, .slice aA ZF.length az, .slice B3 ZB.length d3⟩ : Vs))])) := by rw [Z7]; simpa [flat] using Z9
     obtain ⟨A11, c11, rfl⟩ := ZW Zb
     have HS7 := VL (YM.grown Zr Zb (by simpa using hat)).Ya.drop.drop
     clear YM Yu Z9 Zb Zr hat hcq hfq hlq
     go_wp2
     go_roundw
     case rel =>
      have hLL := HRP.out.2.2.trans HWP.out.2.2
      refine ⟨i + 1, A11, c11, rfl, by go_num, by omega, VL ⟨J3, qs ++ [((⟨kind, ZA, ZC, ZN, ZP, ZI, ZJ, ZE, name, ZG, ZH, base, ref, count, ZF, ZB⟩ : Pk), (⟨.slice B2 ZE.length d2, .slice sA ZG.length sz, .slice qA ZH.length qz, .slice aA ZF.length az, .slice B3 ZB.length d3⟩ : Vs))], HLE.out.trans hLL, ?_, ?_, ?_, ?_⟩⟩
      ·exact HS7.out
      ·rw [List.length_append, YZ.out.1]; rfl
      ·rw [YZ.out.2.2.2.1, <- YZ.out.2.1]
       simp [Yo]
      intro x hx
      rcases List.mem_append.1 hx with hx | hx
      ·exact ⟨(YZ.out.2.2.1 x hx).1.mono hLL, (YZ.out.2.2.1 x hx).2⟩
      rw [List.mem_singleton.1 hx]
      have hM := HRP.out.2.2.trans HWP.out.2.2
      exact ⟨⟨⟨B2, d2, rfl, HRP.out.1.mono HWP.out.2.2, HRP.out.2.1⟩, ⟨sA, sz, rfl, HCC.out.2.1.mono hM, HKK.out.2.1⟩, ⟨qA, qz, rfl, HCC.out.2.2.1.mono hM, HKK.out.2.2.1⟩, ⟨aA, az, rfl, HCC.out.2.2.2.1.mono hM, HKK.out.2.2.2.1⟩, ⟨B3, d3, rfl, HWP.out.1, HWP.out.2.1⟩⟩, YZ.out.2.2.2.2⟩
     case measure => simp [intOf]; omega
  have hie : i = ps.length := by omega
  subst hie
  rw [List.take_of_length_le (by omega)] at hqs
  have YN : St J (row 56 16 (.slice B ps.length c) ps.length (flat pvC qs) :: M) wr := hs
  obtain ⟨J4, hle4, hs6, hcr⟩ := YN.ZR
  have HF := VL (show ∃ J B' c' qs, (Ending.returned (.slice B ps.length c)) = .returned (.slice B' ps.length c') /\ I.le J /\ St J M wr /\ Pks J B' qs /\ Yo qs = Yo ps from ⟨J4, B, c, qs, rfl, Z5.trans hle4, hs6, ⟨hcr, fun x hx => ⟨(hqe x hx).1.mono hle4, (hqe x hx).2⟩, by omega⟩, hqs⟩)
  clear hs YN hs6 hcr hqe hqs
  go_wp2
  go_returns
  exact HF.out
theorem Zp {P : Program} {fn : Func} {p u : Tmp} {ty : TypeId} (h : fn.results = #[.cell p ty, .tmp u]) (tmps : Array Value) (w : World) (g : Nat) (t : TypeId) (cs : Array Value) (fr : Nat × Nat) (d : TypeDesc)
  (hp : tmps.getD p undef = .pointer (some ⟨g, 0, none⟩)) (hg : w.heap[g]? = some (.cells cs t fr))
  (hu : P.underlying ty = some d) (hd : (match d with | .struct _ | .array _ _ => true | _ => false) = true) (hi : (P.info? ty).map (·.size) = some cs.size) :
  (results fn tmps).run P w = .ok (.tuple #[.agg cs, tmps.getD u undef]) w := by
 have hp' : tmps[p]?.getD undef = .pointer (some ⟨g, 0, none⟩) := by simpa using hp
 rw [results_cell_tmp h]
 simp [hp', asAddr, run_loadVar_row w g t ty cs fr d hg hu hd hi]
def WF (I : Zh) (M : List Zt) (T : Pk -> Prop) (e : Ending) (w' : World) : Prop :=
 ∃ J pk vs ok, e = .returned (.tuple #[.agg (WU pk vs), .bool ok]) /\ I.le J /\ St J M w' /\ PkIn J pk vs /\ W9 pk /\ ∀ p, T p -> ok = true /\ pk = p
theorem ref_head {p : Pk} {bs : List UInt8} (hg : Good p) (hb : bs = ZV p) : Yl bs 0 1 = 128 + XV p /\ Yl bs 1 1 = (Z8 p.kind).1 /\ ((bs.drop 4, false) : RS) = (YH (Zu p), false) := by
 have hl := XB hg
 have hw : 0 <= (Z8 p.kind).1 /\ (Z8 p.kind).1 <= 255 := by
  have hk := hg.1
  unfold YF at hk
  rcases (show p.kind = 1 \/ p.kind = 2 \/ p.kind = 3 \/ p.kind = 4 \/ p.kind = 5 \/ p.kind = 6 \/ p.kind = 7 \/ p.kind = 8 by omega) with h | h | h | h | h | h | h | h
  all_goals (rw [h]; simp [Z8])
 subst hb
 refine ⟨?_, ?_, ?_⟩
 ·show ((YP [byteOf (128 + XV p)] : Nat) : Int) = _
  exact nm_u8 (by omega) (by omega)
 ·show ((YP [byteOf (Z8 p.kind).1] : Nat) : Int) = _
  exact nm_u8 hw.1 hw.2
 rfl
theorem XF {p : Pk} {bs : List UInt8} (hg : Good p) (hb : bs = ZV p) {kb lw : Int} (h1 : Yl bs 1 1 = kb) (h0 : Yl bs 0 1 % 32 = lw) :
  (p.kind = 1 -> kb = 200) /\ (p.kind = 2 -> kb = 201) /\ (p.kind = 3 -> kb = 202) /\ (p.kind = 4 -> kb = 203) /\ (p.kind = 5 -> kb = 205 /\ lw = 1) /\ (p.kind = 6 -> kb = 205 /\ lw = 15) /\ (p.kind = 7 -> kb = 206 /\ lw = 1) /\ (p.kind = 8 -> kb = 206 /\ lw = 4) := by
 obtain ⟨a0, a1, _⟩ := ref_head hg hb
 rw [a1] at h1
 rw [a0] at h0
 have hl := XB hg
 have hm : (128 + XV p) % 32 = XV p := by omega
 rw [hm] at h0
 subst h0 h1
 unfold XV
 refine ⟨?_, ?_, ?_, ?_, ?_, ?_, ?_, ?_⟩ <;> (intro h; rw [h]; simp [Z8])
theorem Y5 {p : Pk} {bs : List UInt8} (hg : Good p) (hb : bs = ZV p) : 1 <= p.kind /\ p.kind <= 8 /\ ((bs.drop 4, false) : RS) = (YH (Zu p), false) := by
 have hk := hg.1
 unfold YF at hk
 exact ⟨by omega, by omega, (ref_head hg hb).2.2⟩
theorem WJ {p : Pk} {bs : List UInt8} (hg : Good p) (hb : bs = ZV p) : (p.kind ≠ 4 -> 8 <= bs.length) /\ (3 <= p.kind -> p.kind ≠ 4 -> 12 <= bs.length) /\ (p.kind = 1 -> 28 <= bs.length) /\ (p.kind = 6 -> 20 <= bs.length) := by
 obtain ⟨k1, k8, hr⟩ := Y5 hg hb
 have h4 : 4 <= bs.length := by
  rw [hb]
  unfold ZV
  simp only [List.length_append, List.length_cons, List.length_nil, Zz]
  omega
 have hl : bs.length = 4 + (YH (Zu p)).length := by
  have := congrArg (fun r : RS => r.1.length) hr
  simp only [List.length_drop] at this
  omega
 rcases (show p.kind = 1 \/ p.kind = 2 \/ p.kind = 3 \/ p.kind = 4 \/ p.kind = 5 \/ p.kind = 6 \/ p.kind = 7 \/ p.kind = 8 by omega) with h | h | h | h | h | h | h | h
 ·rw [(shape1 hg h).2] at hl
  simp only [List.length_append, Zy] at hl
  omega
 ·rw [(shape2 hg h).2] at hl
  simp only [List.length_append, Zy] at hl
  omega
 ·obtain ⟨_, t, h2⟩ := shape3 hg h
  have hm := evenL_len (Zu p)
  rw [h2] at hl hm
  simp only [List.length_append, Zy, List.length_cons, List.length_nil] at hl hm
  omega
 ·omega
 ·rw [(shape5 hg h).2] at hl
  simp only [List.length_append, Zy] at hl
  omega
 ·obtain ⟨_, t, h2⟩ := shape6 hg h
  rw [h2] at hl
  simp only [List.length_append, Zy, Zz] at hl
  omega
 ·rw [(shape7 hg h).2] at hl
  simp only [List.length_append, Zy] at hl
  omega
 rw [(shape8 hg h).2] at hl
 simp only [List.length_append, Zy] at hl
 omega
theorem X5 {p : Pk} (h1 : 0 <= p.ZA /\ p.ZA <= 4294967295) (h2 : 0 <= p.ZC /\ p.ZC <= 4294967295) (h3 : 0 <= p.ZN /\ p.ZN <= 18446744073709551615) (h4 : 0 <= p.ZP /\ p.ZP <= 4294967295) (h5 : 0 <= p.ZI /\ p.ZI <= 4294967295) (h6 : 0 <= p.ZJ /\ p.ZJ <= 4294967295)
  (h7 : ∀ x ∈ p.ZE, RpRaw x) (h8 : ∀ x ∈ p.ZG, 0 <= x /\ x <= 4294967295) (h9 : ∀ x ∈ p.ZH, 0 <= x /\ x <= 65535) (h10 : 0 <= p.base /\ p.base <= 65535) (h11 : 0 <= p.ref /\ p.ref <= 4294967295) (h12 : 0 <= p.count /\ p.count <= 255)
  (h13 : ∀ x ∈ p.ZB, (0 <= x.src /\ x.src <= 4294967295) /\ (0 <= x.seq /\ x.seq <= 255)) (l1 : p.ZE.length <= 6000000) (l2 : p.ZG.length <= 6000000) (l3 : p.ZH.length <= 6000000) (l4 : p.ZF.length <= 6000000) (l5 : p.ZB.length <= 6000000) (l6 : p.name.size <= 6000000) : W9 p :=
 ⟨h1, h2, h3, h4, h5, h6, h7, h8, h9, h10, h11, h12, h13, by omega, by omega, by omega, by omega, by omega, by unfold maxLen; omega, by omega, by omega, by omega, by omega, by omega⟩
theorem fm_less {α : Type} {f : α -> List UInt8} {s : Nat} (hs : ∀ x, (f x).length = s) {l : List α} (h : (l.flatMap f).length < s) : l = [] := by
 cases l with
 | nil => rfl
 | cons x r =>
  rw [List.flatMap_cons, List.length_append, hs] at h
  omega
abbrev Z56 : Array Value := #[.int .i64 0, .int .u32 0, .int .u32 0, .int .u64 0, .int .u32 0, .int .u32 0, .int .u32 0, .slice none 0 0, .string ⟨#[]⟩, .slice none 0 0, .slice none 0 0, .int .u16 0, .int .u32 0, .int .u8 0, .slice none 0 0, .slice none 0 0]
theorem Xa {I : Zh} {M : List Zt} {w : World} {g o c : Nat} {bs : List UInt8} {T : Pk -> Prop} {kb lw : Int} (hB : Zq I (some ⟨g, o, none⟩) bs) (_hc : bs.length <= c) (h4 : 4 <= bs.length) (hT : ∀ p, T p -> Good p /\ Y6 p /\ bs = ZV p) (hkb : Yl bs 1 1 = kb) (hlw : Yl bs 0 1 % 32 = lw) (ZX : St I M w) :
  ∃ (q2 : Nat) (y0 : Int) (n : Nat) (fs : Array Field), q2 = w.heap.size /\ Hid (∀ p, T p -> Good p /\ Y6 p /\ bs = ZV p) /\ Hid (Zq I (some ⟨g, o, none⟩) bs) /\ St I (bk q2 56 #[.int .i64 0, .int .u32 0, .int .u32 0, .int .u64 0, .int .u32 0, .int .u32 0, .int .u32 0, .slice none 0 0, .string ⟨#[]⟩, .slice none 0 0, .slice none 0 0, .int .u16 0, .int .u32 0, .int .u8 0, .slice none 0 0, .slice none 0 0] :: M) (w.alloc (.cells #[.int .i64 0, .int .u32 0, .int .u32 0, .int .u64 0, .int .u32 0, .int .u32 0, .int .u32 0, .slice none 0 0, .string ⟨#[]⟩, .slice none 0 0, .slice none 0 0, .int .u16 0, .int .u32 0, .int .u8 0, .slice none 0 0, .slice none 0 0] 56)) /\ (w.alloc (.cells #[.int .i64 0, .int .u32 0, .int .u32 0, .int .u64 0, .int .u32 0, .int .u32 0, .int .u32 0, .slice none 0 0, .string ⟨#[]⟩, .slice none 0 0, .slice none 0 0, .int .u16 0, .int .u32 0, .int .u8 0, .slice none 0 0, .slice none 0 0] 56)).cell? ⟨g, o, none⟩ = some (.int .u8 y0) /\ (w.alloc (.cells #[.int .i64 0, .int .u32 0, .int .u32 0, .int .u64 0, .int .u32 0, .int .u32 0, .int .u32 0, .slice none 0 0, .string ⟨#[]⟩, .slice none 0 0, .slice none 0 0, .int .u16 0, .int .u32 0, .int .u8 0, .slice none 0 0, .slice none 0 0] 56)).cell? ⟨g, o + 1, none⟩ = some (.int .u8 kb) /\ bits BinOp.and IntKind.u8 y0 31 = lw /\ 0 <= lw /\ lw <= 31 /\ 0 <= kb /\ kb <= 255 /\ Hid (Yl bs 1 1 = kb /\ Yl bs 0 1 % 32 = lw) /\ n = bs.length /\ Try.prog.underlying 56 = some (.struct fs) := by
 have b0 := nmA_1 (bs := bs) (i := 0) (by omega)
 have b1 := nmA_1 (bs := bs) (i := 1) (by omega)
 have ZY := ZX.alloc 56 #[.int .i64 0, .int .u32 0, .int .u32 0, .int .u64 0, .int .u32 0, .int .u32 0, .int .u32 0, .slice none 0 0, .string ⟨#[]⟩, .slice none 0 0, .slice none 0 0, .int .u16 0, .int .u32 0, .int .u8 0, .slice none 0 0, .slice none 0 0]
 have hr0 := Wp bs 0 1
 have hr1 := Wp bs 1 1
 have h9 : ((256 ^ 1 : Nat) : Int) = 256 := by decide
 have hand := and_31 (f := Yl bs 0 1) hr0.1 (by omega)
 obtain ⟨fs, hd⟩ := st56D
 obtain ⟨g', o', e, ZK⟩ := hB.at (by omega)
 injection e with e
 injection e with e1 e2
 subst e1 e2
 refine ⟨w.heap.size, Yl bs 0 1, bs.length, fs, rfl, VL hT, VL hB, ZY, ?_, ?_, by rw [hand, hlw], by omega, by omega, by omega, by omega, VL ⟨hkb, hlw⟩, rfl, hd⟩
 ·have h := ZK _ _ ZY 0 (by omega)
  rw [b0]
  exact h
 have h := ZK _ _ ZY 1 (by omega)
 rw [<- hkb, b1]
 exact h
theorem Zq.at_part {I : Zh} {g o c : Nat} {bs : List UInt8} (h : Zq I (some ⟨g, o, none⟩) bs) (i k : Nat) (hc : bs.length <= c) (hi : i < bs.length) : Zq I (some ⟨g, o + i, none⟩) ((bs.drop i).take k) := by
 have hcr : ¬ c = i := by omega
 have h := h.part (i := i) (k := k) hc
 rw [if_neg hcr] at h
 simpa [Wq] using h
theorem numAtC (I : Zh) (M : List Zt) (w : World) (g o c : Nat) (bs : List UInt8) (i k : Nat) (hB : Zq I (some ⟨g, o, none⟩) bs) (hc : bs.length <= c) (hk : 0 < k) (hk8 : k <= 8) (hi : i + k <= bs.length) (ZX : St I M w) :
  Calls Try.prog 22 #[.slice (some ⟨g, o + i, none⟩) k (c - i)] w (fun e w' => e = .returned (.int .u64 (Yl bs i k)) /\ w = w') := by
 have hl : ((bs.drop i).take k).length = k := by rw [List.length_take, List.length_drop]; omega
 have HC := numberC I M w _ (c - i) _ (hB.at_part i k hc (by omega)) (by omega) ZX
 rw [hl] at HC
 exact HC
theorem numL_app (b : List UInt8) : ∀ acc : Nat, b.foldl (fun x c => x * 256 + c.toNat) acc = acc * 256 ^ b.length + YP b := by
 induction b with
 | nil => intro acc; simp [YP]
 | cons x r ih =>
  intro acc
  have h1 := ih (0 * 256 + x.toNat)
  have h2 := ih (acc * 256 + x.toNat)
  unfold YP
  simp only [List.foldl_cons, List.length_cons] at *
  rw [h2, h1, Nat.pow_succ]
  simp only [Nat.zero_mul, Nat.zero_add, Nat.add_mul, Nat.mul_assoc]
  have e : acc * (256 ^ r.length * 256) = acc * (256 * 256 ^ r.length) := by rw [Nat.mul_comm (256 ^ r.length)]
  omega
theorem nmA_split {bs : List UInt8} {i : Nat} (h : i + 8 <= bs.length) : Yl bs i 8 = Yl bs i 4 * 4294967296 + Yl bs (i + 4) 4 := by
 unfold Yl
 have e : (bs.drop i).take 8 = (bs.drop i).take 4 ++ (bs.drop (i + 4)).take 4 := by
  rw [<- List.drop_drop, <- List.take_add]
 have hl : ((bs.drop (i + 4)).take 4).length = 4 := by rw [List.length_take, List.length_drop]; omega
 have h1 : YP ((bs.drop i).take 8) = YP ((bs.drop i).take 4) * 256 ^ 4 + YP ((bs.drop (i + 4)).take 4) := by
  rw [e]
  show ((bs.drop i).take 4 ++ (bs.drop (i + 4)).take 4).foldl (fun x c => x * 256 + c.toNat) 0 = _
  rw [List.foldl_append, numL_app, hl]
  rfl
 rw [h1]
 have h9 : (256 ^ 4 : Nat) = 4294967296 := by decide
 rw [h9]
 omega
end Go.Proofs.Ytddopbbmgpnjjaa
