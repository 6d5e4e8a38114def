/- part. -/
import Derived.Test.YtddopbbmgpnjjaaZT14
namespace Go.Proofs.Ytddopbbmgpnjjaa
set_option linter.unusedSimpArgs false
open Go.RowKit
structure RpRaw (x : Rp) : Prop where
 src : 0 <= x.src /\ x.src < 4294967296
 lost : 0 <= x.lost /\ x.lost < 256
 total : 0 <= x.total /\ x.total <= 4294967295
 high : 0 <= x.high /\ x.high < 4294967296
 Xw : 0 <= x.Xw /\ x.Xw < 4294967296
 last : 0 <= x.last /\ x.last < 4294967296
 delay : 0 <= x.delay /\ x.delay < 4294967296
structure W9 (p : Pk) : Prop where
 ZA : 0 <= p.ZA /\ p.ZA <= 4294967295
 ZC : 0 <= p.ZC /\ p.ZC <= 4294967295
 ZN : 0 <= p.ZN /\ p.ZN <= 18446744073709551615
 ZP : 0 <= p.ZP /\ p.ZP <= 4294967295
 ZI : 0 <= p.ZI /\ p.ZI <= 4294967295
 ZJ : 0 <= p.ZJ /\ p.ZJ <= 4294967295
 ZE : ∀ x ∈ p.ZE, RpRaw x
 ZG : ∀ x ∈ p.ZG, 0 <= x /\ x <= 4294967295
 ZH : ∀ x ∈ p.ZH, 0 <= x /\ x <= 65535
 base : 0 <= p.base /\ p.base <= 65535
 ref : 0 <= p.ref /\ p.ref <= 4294967295
 count : 0 <= p.count /\ p.count <= 255
 ZB : ∀ x ∈ p.ZB, (0 <= x.src /\ x.src <= 4294967295) /\ (0 <= x.seq /\ x.seq <= 255)
 lr : p.ZE.length <= 140737488351232
 ls : p.ZG.length <= 140737488351232
 lq : p.ZH.length <= 140737488351232
 la : p.ZF.length <= 140737488351232
 lw : p.ZB.length <= 140737488351232
 ln : p.name.size <= maxLen
 br : p.ZE.length * 28 <= 140737488351232
 bs : p.ZG.length * 4 <= 140737488351232
 bq : p.ZH.length * 2 <= 140737488351232
 ba : p.ZF.length * 8 <= 140737488351232
 bw : p.ZB.length * 8 <= 140737488351232
theorem W9.ok {p : Pk} (h : W9 p) (g : Good p) : Y6 p where
 ZA := h.ZA
 ZC := h.ZC
 ZN := h.ZN
 ZP := h.ZP
 ZI := h.ZI
 ZJ := h.ZJ
 ZE := fun x hx => by
  have h1 := h.ZE x hx
  refine ⟨h1.src, h1.lost, ⟨h1.total.1, ?_⟩, h1.high, h1.Xw, h1.last, h1.delay⟩
  rcases Int.lt_or_le x.total 16777216 with h2 | h2
  ·exact h2
  exact absurd g (bad_rep hx (decide_eq_true h2))
 ZG := h.ZG
 ZH := h.ZH
 base := h.base
 ref := by
  refine ⟨h.ref.1, ?_⟩
  obtain ⟨hk, he⟩ := g
  have h1 : p.ref = (YO p).ref := congrArg Pk.ref he
  unfold YO at h1
  unfold YF at hk
  by_cases h6 : p.kind = 6
  ·rcases hk with hk | hk | hk | hk | hk | hk | hk <;> first | omega | (have := hk.2.2.2.2; omega)
  simp only [if_neg h6] at h1
  omega
 count := h.count
 ZB := h.ZB
theorem Xt {p : Pk} (g : Good p) : (Zu p).length <= 3000 := by
 obtain ⟨n1, n2, n3, n4, n5, n6⟩ := Y0 g
 unfold Zu
 simp only [List.length_append]
 have h1 := YD (f := YK) (s := 24) Za p.ZE
 have h2 := WV p.ZG
 have h3 := YD (f := XU) (s := 8) Wm p.ZB
 have h4 : (if p.kind = 4 then ([] : List UInt8) else ZM p.ZA).length <= 4 := by split <;> simp [Zy]
 have h5 : (if 5 <= p.kind then ZM p.ZC else ([] : List UInt8)).length <= 4 := by split <;> simp [Zy]
 have h6 : (Xf p).length <= 1100 := by
  have hp := WZ _ p.ZH (Nat.le_refl _)
  have hm := foldM_ok p.ZF.length p.ZF (Nat.le_refl _)
  have hz : p.name.data.toList.length = p.name.size := rfl
  unfold Xf
  repeat' split
  ·rw [WV]; simp
  ·simp only [List.length_append, hz, List.length_cons, List.length_nil]; omega
  ·omega
  ·simp only [List.length_append, Zz, Zy, WB]
   have e : WL p.ZF = (p.ZF.map XN).foldl (Y2 p.ZF.length) ms0 := rfl
   rw [e]
   omega
  simp
 omega
theorem pack_len {p : Pk} (g : Good p) : 4 <= (ZV p).length /\ (ZV p).length <= 3010 := by
 have h1 := Xt g
 have h2 := Xr (Zu p)
 unfold ZV
 simp only [List.length_append, List.length_cons, List.length_nil, Zz]
 omega
theorem packs_len {l : List Pk} {n : Nat} (hn : l.length <= n) (g : ∀ p ∈ l, Good p) : (l.flatMap ZV).length <= 3010 * n := by
 induction l generalizing n with
 | nil => simp
 | cons p r ih =>
  rw [List.flatMap_cons, List.length_append]
  have h1 := (pack_len (g p (List.mem_cons_self ..))).2
  rw [List.length_cons] at hn
  have h2 := ih (n := n - 1) (by omega) (fun q hq => g q (List.mem_cons_of_mem _ hq))
  omega
def Xh (l : List Pk) : Prop := (1 <= l.length /\ l.length <= 8) /\ (∃ p r, l = p :: r /\ (p.kind = 1 \/ p.kind = 2)) /\ (∀ p ∈ l, Good p) /\ (l.flatMap ZV).length <= 1500
abbrev pvC (x : Pk × Vs) : List Value := (WU x.1 x.2).toList
abbrev Yo (l : List (Pk × Vs)) : List Pk := l.map (·.1)
structure Pks (I : Zh) (A : Option Addr) (ps : List (Pk × Vs)) : Prop where
 cells : Cells I A (flat pvC ps)
 each : ∀ x ∈ ps, PkIn I x.1 x.2 /\ W9 x.1
 most : ps.length <= 1099511627776
theorem Pks.mono {I J : Zh} {A : Option Addr} {ps : List (Pk × Vs)} (h : Pks I A ps) (hl : I.le J) : Pks J A ps := ⟨h.cells.mono hl, fun x hx => ⟨(h.each x hx).1.mono hl, (h.each x hx).2⟩, h.most⟩
def XI (M : List Zt) (l : List Pk) (v : Value) (M' : List Zt) : Prop :=
 (Xh l /\ ∃ u, v = .tuple #[u, .int .i64 0] /\ M' = row 5 1 u (l.flatMap ZV).length (Z6 (l.flatMap ZV)) :: M) \/ (¬ Xh l /\ v = .tuple #[.slice none 0 0, .int .i64 1] /\ M' = M)
theorem Xh.no_len {l : List Pk} (h : ¬ (1 <= l.length /\ l.length <= 8)) : ¬ Xh l := fun g => h g.1
theorem Xh.no_head {p : Pk} {r : List Pk} (h : ¬ (p.kind = 1 \/ p.kind = 2)) : ¬ Xh (p :: r) := by
 rintro ⟨_, ⟨q, s, e, hq⟩, _⟩
 obtain ⟨rfl, rfl⟩ := List.cons.inj e
 exact h hq
theorem Xh.no_good {l : List Pk} {p : Pk} (hp : p ∈ l) (h : ¬ Good p) : ¬ Xh l := fun g => h (g.2.2.1 p hp)
theorem Xh.no_most {l : List Pk} (h : ¬ (l.flatMap ZV).length <= 1500) : ¬ Xh l := fun g => h g.2.2.2
theorem within_t {n lo hi : Int} (h : lo <= n /\ n <= hi) : XQ n lo hi = true := by
 unfold XQ
 rw [decide_eq_true h.1, decide_eq_true h.2]; rfl
theorem within_f {n lo hi : Int} (h : ¬ (lo <= n /\ n <= hi)) : XQ n lo hi = false := by
 cases e : XQ n lo hi
 ·rfl
 exact absurd (Xi e) h
set_option maxRecDepth 100000 in
set_option maxHeartbeats 20000000 in
theorem buildC (I : Zh) (M : List Zt) (w : World) (A : Option Addr) (z : Nat) (ps : List (Pk × Vs)) (hp : Pks I A ps) (ZX : St I M w) :
  Calls Try.prog 11 #[.slice A ps.length z] w (YR I (fun v _ M' => XI M (Yo ps) v M')) := by
 have HP := VL hp
 have HS0 := VL ZX
 have hmost := hp.most
 clear hp ZX
 by_cases hlen : 1 <= ps.length /\ ps.length <= 8
 case neg =>
  have HW := WI ps.length 1 8 w
  rw [within_f (by omega)] at HW
  have HW := VL HW
  go_enter Try.func11, Try.ntmps11
  go_wp2_with (go_at_call 19; refine HW.out.mono ?_; clear HW; rintro e w2 ⟨rfl, hw⟩; subst hw)
  go_returns
  exact YR.mk (.refl I) HS0.out (.inr ⟨Xh.no_len (by simpa [Yo] using hlen), rfl, rfl⟩)
 have HW := WI ps.length 1 8 w
 rw [within_t (by omega)] at HW
 have HW := VL HW
 obtain ⟨g, o, rfl, ZK⟩ := flat_get (s := 16) (fun _ => rfl) HP.out.cells (by omega) (by decide)
 obtain ⟨x0, r0, hx0⟩ : ∃ x r, ps = x :: r := by
  cases ps with
  | nil => simp at hlen
  | cons x r => exact ⟨x, r, rfl⟩
 have z0 : w.cell? ⟨g, o, none⟩ = some (.int .i64 x0.1.kind) := by
  have := ZK _ _ HS0.out 0 (by omega) 0 (by decide)
  subst hx0
  simpa using this
 have HC := VL ZK
 have HX0 := VL hx0
 clear ZK hx0
 have HK := WI x0.1.kind 1 2 w
 obtain ⟨h1, h2⟩ := hlen
 by_cases hk : x0.1.kind = 1 \/ x0.1.kind = 2
 case neg =>
  rw [within_f (by omega)] at HK
  have HK := VL HK
  go_enter Try.func11, Try.ntmps11
  go_wp2_with (first | (go_at_call 19; refine HW.out.mono ?_; clear HW; rintro e w2 ⟨rfl, hw⟩; subst hw) | (go_at_call 19; refine HK.out.mono ?_; clear HK; rintro e w2 ⟨rfl, hw⟩; subst hw))
  go_returns
  exact YR.mk (.refl I) HS0.out (.inr ⟨by rw [HX0.out]; exact Xh.no_head hk, rfl, rfl⟩)
 rw [within_t (by omega)] at HK
 have HK := VL HK
 have HKK := VL hk
 clear hk
 go_enter Try.func11, Try.ntmps11
 go_upto_region 4 with (first | (go_at_call 19; refine HW.out.mono ?_; clear HW; rintro e w2 ⟨rfl, hw⟩; subst hw) | (go_at_call 19; refine HK.out.mono ?_; clear HK; rintro e w2 ⟨rfl, hw⟩; subst hw))
 have hs : St I (row 5 1 (.slice none 0 0) ([] : List UInt8).length (Z6 []) :: bk w.heap.size 60 #[.slice none 0 0] :: M) (w.alloc (.cells #[.slice none 0 0] 60)) := (HS0.out.alloc 60 #[.slice none 0 0]).nil
 obtain ⟨B, hB⟩ : ∃ B, B = w.heap.size := ⟨_, rfl⟩
 rw [<- hB] at hs ⊢
 generalize World.alloc w _ = W at hs ⊢
 clear hB z0 HS0
 have HS := VL hs
 clear hs
 go_upto_region 5 with fail
 go_loopw [21] (fun iv wr => ∃ i : Nat, i <= ps.length /\ iv = .int .i64 i /\ Hid ((∀ p ∈ (Yo ps).take i, Good p) /\ ∃ J vb, I.le J /\ St J (row 5 1 vb (((Yo ps).take i).flatMap ZV).length (Z6 (((Yo ps).take i).flatMap ZV)) :: bk B 60 #[vb] :: M) wr)) (fun iv _ => ps.length - (intOf iv).toNat)
 case atStart => exact ⟨0, by omega, rfl, VL ⟨fun p hp => by simp at hp, I, _, .refl I, HS.out⟩⟩
 case round =>
  obtain ⟨i, hi, rfl, hh⟩ := hrel
  clear HS
  obtain ⟨hall, J, vb, Z5, hs⟩ := hh.out
  clear hh
  have hpl : (Yo ps).length = ps.length := List.length_map ..
  by_cases Z0 : i < ps.length
  ·skip
   have hcl := HC.out _ _ (hs.less Z5) i Z0
   have hme := (HP.out.mono Z5).each _ (List.getElem_mem Z0)
   have htk : (Yo ps).take (i + 1) = (Yo ps).take i ++ [ps[i].1] := by rw [List.take_succ_eq_append_getElem (by omega)]; simp [Yo]
   have hmem : ps[i].1 ∈ Yo ps := List.mem_map_of_mem (List.getElem_mem Z0)
   generalize ps[i] = x at hcl hme htk hmem
   obtain ⟨⟨kind, ZA, ZC, ZN, ZP, ZI, ZJ, ZE, name, ZG, ZH, base, ref, count, ZF, ZB⟩, ⟨vr, vs, vq, va, vw⟩⟩ := x
   obtain ⟨⟨hr, hs', hq, ha, hw⟩, Yf⟩ := hme
   dsimp only at hr hs' hq ha hw Yf htk hmem
   obtain ⟨rA, rz, rfl, cr, -⟩ := hr
   obtain ⟨sA, sz, rfl, cs, -⟩ := hs'
   obtain ⟨qA, qz, rfl, cq, hqz⟩ := hq
   obtain ⟨aA, az, rfl, ca, -⟩ := ha
   obtain ⟨wA, wz, rfl, cw, -⟩ := hw
   have y0 : wr.cell? ⟨g, o + i * 16, none⟩ = some (.int .i64 kind) := hcl 0 (by decide)
   have y1 : wr.cell? ⟨g, o + i * 16 + 1, none⟩ = some (.int .u32 ZA) := hcl 1 (by decide)
   have y2 : wr.cell? ⟨g, o + i * 16 + 2, none⟩ = some (.int .u32 ZC) := hcl 2 (by decide)
   have y3 : wr.cell? ⟨g, o + i * 16 + 3, none⟩ = some (.int .u64 ZN) := hcl 3 (by decide)
   have y4 : wr.cell? ⟨g, o + i * 16 + 4, none⟩ = some (.int .u32 ZP) := hcl 4 (by decide)
   have y5 : wr.cell? ⟨g, o + i * 16 + 5, none⟩ = some (.int .u32 ZI) := hcl 5 (by decide)
   have y6 : wr.cell? ⟨g, o + i * 16 + 6, none⟩ = some (.int .u32 ZJ) := hcl 6 (by decide)
   have y7 : wr.cell? ⟨g, o + i * 16 + 7, none⟩ = some (.slice rA ZE.length rz) := hcl 7 (by decide)
   have y8 : wr.cell? ⟨g, o + i * 16 + 8, none⟩ = some (.string name) := hcl 8 (by decide)
   have y9 : wr.cell? ⟨g, o + i * 16 + 9, none⟩ = some (.slice sA ZG.length sz) := hcl 9 (by decide)
   have y10 : wr.cell? ⟨g, o + i * 16 + 10, none⟩ = some (.slice qA ZH.length qz) := hcl 10 (by decide)
   have y11 : wr.cell? ⟨g, o + i * 16 + 11, none⟩ = some (.int .u16 base) := hcl 11 (by decide)
   have y12 : wr.cell? ⟨g, o + i * 16 + 12, none⟩ = some (.int .u32 ref) := hcl 12 (by decide)
   have y13 : wr.cell? ⟨g, o + i * 16 + 13, none⟩ = some (.int .u8 count) := hcl 13 (by decide)
   have y14 : wr.cell? ⟨g, o + i * 16 + 14, none⟩ = some (.slice aA ZF.length az) := hcl 14 (by decide)
   have y15 : wr.cell? ⟨g, o + i * 16 + 15, none⟩ = some (.slice wA ZB.length wz) := hcl 15 (by decide)
   clear hcl
   have ZY := hs.alloc 51 #[.int .i64 kind, .int .u32 ZA, .int .u32 ZC, .int .u64 ZN, .int .u32 ZP, .int .u32 ZI, .int .u32 ZJ, .slice rA ZE.length rz, .string name, .slice sA ZG.length sz, .slice qA ZH.length qz, .int .u16 base, .int .u32 ref, .int .u8 count, .slice aA ZF.length az, .slice wA ZB.length wz]
   obtain ⟨q, hq⟩ : ∃ q, q = wr.heap.size := ⟨_, rfl⟩
   rw [<- hq] at ZY
   have HG := VL (goodC J _ _ kind ZA ZC ZN ZP ZI ZJ base ref count name ZE ZG ZH ZF ZB rA rz sA sz qA qz aA az wA wz cr Yf.lr (fun x hx => (Yf.ZE x hx).total) cq Yf.lq ca Yf.la Yf.ln Yf.ls Yf.lw Yf.ref ZY)
   have HR := VL (And.intro Yf (And.intro htk (And.intro hmem hall)))
   have HCC := VL (And.intro cr (And.intro cs (And.intro cq (And.intro ca (And.intro cw hqz)))))
   have HLE := VL Z5
   have HB := VL ZY
   have HQ := VL hq
   clear hs ZY Yf htk hmem hall cr cs cq ca cw hqz Z5 hq
   go_upto_region 7 with fail
   rw [<- HQ.out]
   obtain ⟨cs1, hcs1⟩ : ∃ z : Array Value, z = #[.int .i64 kind, .int .u32 ZA, .int .u32 ZC, .int .u64 ZN, .int .u32 ZP, .int .u32 ZI, .int .u32 ZJ, .slice rA ZE.length rz, .string name, .slice sA ZG.length sz, .slice qA ZH.length qz, .int .u16 base, .int .u32 ref, .int .u8 count, .slice aA ZF.length az, .slice wA ZB.length wz] := ⟨_, rfl⟩
   generalize World.alloc wr _ = W2 at HB HG ⊢
   obtain ⟨Zc, hf1, hl1⟩ := ZO.all (HB.out.at 0 rfl)
   clear y0 y1 y2 y3 y4 y5 y6 y7 y8 y9 y10 y11 y12 y13 y14 y15
   go_wp2_with fail
   go_at_call 20
   refine HG.out.mono ?_
   clear HG HB Zc hf1 hl1 W2
   rintro e w2 ⟨_, _, _, rfl, _, hs, rfl, rfl, rfl⟩
   obtain ⟨Zc, hf1, hl1⟩ := ZO.all (hs.at 0 rfl)
   by_cases hg : Good (⟨kind, ZA, ZC, ZN, ZP, ZI, ZJ, ZE, name, ZG, ZH, base, ref, count, ZF, ZB⟩ : Pk)
   ·skip
    rw [XX hg]
    have hlp := packs_len (n := 8) (by rw [List.length_take]; omega) HR.out.2.2.2
    have HC2 := VL (writeC J (bk q 51 #[.int .i64 kind, .int .u32 ZA, .int .u32 ZC, .int .u64 ZN, .int .u32 ZP, .int .u32 ZI, .int .u32 ZJ, .slice rA ZE.length rz, .string name, .slice sA ZG.length sz, .slice qA ZH.length qz, .int .u16 base, .int .u32 ref, .int .u8 count, .slice aA ZF.length az, .slice wA ZB.length wz] :: M) w2 kind ZA ZC ZN ZP ZI ZJ base ref count name ZE ZG ZH ZF ZB rA rz sA sz qA qz aA az wA wz HCC.out.1 HCC.out.2.1 HCC.out.2.2.1 HCC.out.2.2.2.1 HCC.out.2.2.2.2.1 B vb _ (HR.out.1.ok hg) hg (by omega) HCC.out.2.2.2.2.2 hs.rot12)
    have HGG := VL hg
    clear hs hg hlp
    go_wp2_with fail
    go_at_call 21
    refine HC2.out.mono ?_
    clear HC2 Zc hf1 hl1
    rintro e w3 ⟨_, J2, _, rfl, Zd, hs, rfl, vb2, rfl⟩
    have HS := VL hs.rot21.drop
    clear hs
    go_wp2
    go_roundw
    case rel =>
     refine ⟨i + 1, by omega, by go_num, VL ⟨?_, J2, vb2, HLE.out.trans Zd, ?_⟩⟩
     ·rw [HR.out.2.1]
      intro p hp
      rcases List.mem_append.1 hp with hp | hp
      ·exact HR.out.2.2.2 p hp
      rw [List.mem_singleton.1 hp]; exact HGG.out
     rw [HR.out.2.1, List.flatMap_append, List.flatMap_singleton]
     exact HS.out
    case measure => simp [intOf]; omega
   rw [Xz hg]
   have HF := VL (YR.mk (Q := fun v _ M' => XI M (Yo ps) v M') HLE.out (hs.drop.drop.drop) (show XI M (Yo ps) _ _ from .inr ⟨Xh.no_good HR.out.2.2.1 hg, rfl, rfl⟩))
   clear hs hg
   go_wp2
   go_returns
   exact HF.out
  have hin : i = ps.length := by omega
  rw [List.take_of_length_le (by omega)] at hs hall
  have hl8 := packs_len (n := 8) (by omega) hall
  subst hin
  obtain ⟨bA, bz, rfl⟩ := ZW (show World.ownsRow _ 0 5 1 vb _ _ from hs.at 0 rfl)
  obtain ⟨hcb, hfb, hlb⟩ := (show ZO _ B 60 #[_] from hs.at 1 rfl).one
  by_cases hm : ((Yo ps).flatMap ZV).length <= 1500
  ·have HF := VL (YR.mk (Q := fun v _ M' => XI M (Yo ps) v M') Z5 hs.ZQ.drop (show XI M (Yo ps) _ _ from .inl ⟨⟨⟨by omega, by omega⟩, ⟨x0.1, Yo r0, by rw [HX0.out]; rfl, HKK.out⟩, hall, hm⟩, _, rfl, rfl⟩))
   generalize ((Yo ps).flatMap ZV).length = n at *
   clear hs
   go_wp2
   go_returns
   exact HF.out
  have HF := VL (YR.mk (Q := fun v _ M' => XI M (Yo ps) v M') Z5 hs.drop.drop (show XI M (Yo ps) _ _ from .inr ⟨Xh.no_most hm, rfl, rfl⟩))
  generalize ((Yo ps).flatMap ZV).length = n at *
  clear hs
  go_wp2
  go_returns
  exact HF.out
section
variable {α : Type}
def Zm (x : Nat -> α) (ds : List Nat) (t : Array α) : Array α := ds.foldl (fun t d => t.setIfInBounds d (x d)) t
theorem setAll_size (x : Nat -> α) : ∀ (ds : List Nat) (t : Array α), (Zm x ds t).size = t.size
 | [], _ => rfl
 | d :: ds, t => by
  have := setAll_size x ds (t.setIfInBounds d (x d))
  rw [Array.size_setIfInBounds] at this
  exact this
theorem Xj (x : Nat -> α) : ∀ (ds : List Nat) (t : Array α) (j : Nat), (Zm x ds t)[j]? = if j ∈ ds /\ j < t.size then some (x j) else t[j]?
 | [], t, j => by simp [Zm]
 | d :: ds, t, j => by
  have h := Xj x ds (t.setIfInBounds d (x d)) j
  rw [Array.size_setIfInBounds] at h
  have e : Zm x (d :: ds) t = Zm x ds (t.setIfInBounds d (x d)) := rfl
  rw [e, h, Array.getElem?_setIfInBounds]
  by_cases h1 : j ∈ ds /\ j < t.size
  ·rw [if_pos h1, if_pos ⟨List.mem_cons_of_mem _ h1.1, h1.2⟩]
  rw [if_neg h1]
  by_cases h2 : d = j
  ·subst h2
   by_cases h3 : d < t.size
   ·simp [h3]
   simp [h3]
  rw [if_neg h2]
  by_cases h3 : j ∈ ds
  ·simp [h3, h1]
   intro Z0
   exact absurd ⟨h3, Z0⟩ h1
  simp [h3, Ne.symm h2]
theorem setAll_ext {x y : Nat -> α} {ds es : List Nat} {t : Array α} (h1 : ∀ j, j ∈ ds ↔ j ∈ es) (h2 : ∀ j ∈ ds, x j = y j) : Zm x ds t = Zm y es t := by
 apply Array.ext_getElem?
 intro j
 rw [Xj, Xj]
 by_cases h : j ∈ ds
 ·simp [h, (h1 j).1 h, h2 j h]
 have : j ∉ es := fun h' => h ((h1 j).2 h')
 simp [h, this]
end
def upd (x : Nat -> Value) (d : Nat) (v : Value) : Nat -> Value := fun j => if j = d then v else x j
def Act.over (a : Act) (ds : List Nat) (x : Nat -> Value) : Act := { a with tmps := Zm x ds a.tmps }
theorem over_self (a : Act) (ds : List Nat) : a = Act.over a ds (fun d => a.tmps.getD d undef) := by
 cases a with
 | mk t f =>
  show Act.mk t f = Act.mk (Zm _ ds t) f
  have : Zm (fun d => t.getD d undef) ds t = t := by
   apply Array.ext_getElem?
   intro j
   rw [Xj]
   split
   ·rename_i h; simp [h.2]
   rfl
  rw [this]
theorem over_put {a : Act} {ds : List Nat} {x : Nat -> Value} {d : Nat} {v : Value} (hd : d ∈ ds) : (Act.over a ds x).put (some d) v = Act.over a ds (upd x d v) := by
 show Act.mk ((Zm x ds a.tmps).setIfInBounds d v) a.defers = Act.mk (Zm _ ds a.tmps) a.defers
 have : (Zm x ds a.tmps).setIfInBounds d v = Zm (upd x d v) ds a.tmps := by
  apply Array.ext_getElem?
  intro j
  rw [Array.getElem?_setIfInBounds, Xj, Xj, setAll_size]
  by_cases h : d = j
  ·subst h
   by_cases h3 : d < a.tmps.size
   ·simp [h3, hd, upd]
   simp [h3]
  have h' : ¬ j = d := fun e => h e.symm
  simp [h, upd, h']
 rw [this]
structure Cd where
 i : Nat
 d : Nat
 T : Value -> Zh -> Prop
def setChk (md : Region.Mode) (ops : Array Oper) (L : Array Bool) : List Nat -> List Nat -> Bool
 | _, [] => true
 | prev, i :: is => !(L.getD i true) && ((match ops[i]? with | some o => o.after.toList.all (fun e => !(Region.binds md e) || (L.getD e.on false || prev.contains e.on)) | none => false) && setChk md ops L (i :: prev) is)
def setOk (md : Region.Mode) (ops : Array Oper) (L : Array Bool) (is : List Nat) : Bool :=
 setChk md ops L [] is &&
 (List.range ops.size).all (fun j => L.getD j true || is.contains j || (match ops[j]? with
  | some o => is.all (fun i => o.after.toList.any fun e => Region.binds md e && e.on == i) || o.after.toList.any (fun e => Region.binds md e && (!(L.getD e.on false) && !(is.contains e.on)))
  | none => true))
section
variable {P : Program} {ops : Array Oper} {Q : Exit -> Act -> World -> Prop} {md : Region.Mode} {S : World -> Prop}
def YI (P : Program) (ops : Array Oper) (Q : Exit -> Act -> World -> Prop) (I : Zh) (M : List Zt) (a0 : Act) (ds : List Nat) (c : Cd) : Prop :=
 ∀ (x : Nat -> Value) (J : Zh) (w : World), I.le J -> St J M w -> ∀ K : Act -> World -> Prop, Hid (∀ v J' w', J.le J' -> St J' M w' -> c.T v J' -> K ((Act.over a0 ds x).put (some c.d) v) w') -> wpOp P ops Q c.i K (Act.over a0 ds x) w
theorem YI.mk {I : Zh} {M : List Zt} {a0 : Act} {ds : List Nat} {c : Cd} {o : Oper} (ho : ops[c.i]? = some o) (hg : o.guard = none)
  (h : ∀ (x : Nat -> Value) (J : Zh) (w : World), I.le J -> St J M w -> ∀ K : Act -> World -> Prop, Hid (∀ v J' w', J.le J' -> St J' M w' -> c.T v J' -> K ((Act.over a0 ds x).put (some c.d) v) w') -> o.wp P (Act.over a0 ds x) w K Q) : YI P ops Q I M a0 ds c := by
 intro x J w Z5 ZX K hK
 refine wpOp_step ho (fun K' hK' => ?_)
 have hw : Region.wanted o (yielded ops (Act.over a0 ds x).tmps) = true := by unfold Region.wanted; rw [hg]
 rw [if_pos hw]
 exact h x J w Z5 ZX K' (VL fun v J' w' h1 h2 h3 => hK' _ _ (hK.out v J' w' h1 h2 h3))
theorem YI.call {I : Zh} {M : List Zt} {a0 : Act} {ds : List Nat} {c : Cd} {o : Oper} {f : Nat} {xs : Array Operand} {ts : Array TypeId} {args : Array Value} (ho : ops[c.i]? = some o) (hg : o.guard = none) (hd : o.dst = some c.d)
  (hop : o.op = .call { callee := .value (.func f), args := xs, argTypes := ts }) (eg : ∀ args w, (callFunc f args).run P w = .ok (.enter f args) w) (ha : ∀ x, xs.map (Act.over a0 ds x).eval = args)
  (hc : ∀ J w, I.le J -> St J M w -> Calls P f args w (fun e w' => ∃ v J', e = .returned v /\ J.le J' /\ St J' M w' /\ c.T v J')) : YI P ops Q I M a0 ds c := by
 refine YI.mk ho hg (fun x J w Z5 hs K hK => ?_)
 have hr : (execOp (Act.over a0 ds x).eval o).run P w = .ok (.enter f args) w := by
  unfold execOp
  simp only [hop, resolve, ha x, Act.eval, Deferred.ofValue, invoke, Sem.run_bind, Sem.run_pure, Result.andThen_ok, Array.append_empty, Array.empty_append, eg]
 unfold Oper.wp
 rw [hr]
 simp only [Oper.upon]
 refine (hc J w Z5 hs).mono fun e w' he => ?_
 obtain ⟨v, J', rfl, h1, h2, h3⟩ := he
 have := hK.out v J' w' h1 h2 h3
 rw [hd]
 exact this
theorem YI.run {I : Zh} {M : List Zt} {a0 : Act} {ds : List Nat} {c : Cd} {o : Oper} (ho : ops[c.i]? = some o) (hg : o.guard = none) (hd : o.dst = some c.d)
  (hc : ∀ x J w, I.le J -> St J M w -> ∃ v J' w', (execOp (Act.over a0 ds x).eval o).run P w = .ok (.value v) w' /\ J.le J' /\ St J' M w' /\ c.T v J') : YI P ops Q I M a0 ds c := by
 refine YI.mk ho hg (fun x J w Z5 hs K hK => ?_)
 obtain ⟨v, J', w', hr, h1, h2, h3⟩ := hc x J w Z5 hs
 unfold Oper.wp
 rw [hr]
 simp only [Oper.upon]
 have := hK.out v J' w' h1 h2 h3
 rw [hd]
 exact this
theorem YI.lit {I : Zh} {M : List Zt} {a0 : Act} {ds : List Nat} {c : Cd} {o : Oper} {t : TypeId} {n : Nat} {parts : Array (Nat × Operand)} (ho : ops[c.i]? = some o) (hg : o.guard = none) (hd : o.dst = some c.d) (hop : o.op = .buildSlice t n parts)
  (hc : ∀ x J w, I.le J -> St J M w -> ∃ v J' w', (Instr.buildSlice t n (parts.map fun (i, y) => (i, (Act.over a0 ds x).eval y))).run P w = .ok v w' /\ J.le J' /\ St J' M w' /\ c.T v J') : YI P ops Q I M a0 ds c := by
 refine YI.run ho hg hd (fun x J w Z5 hs => ?_)
 obtain ⟨v, J', w', hr, h⟩ := hc x J w Z5 hs
 refine ⟨v, J', w', ?_, h⟩
 unfold execOp
 simp only [hop, Sem.run_bind, hr, Result.andThen_ok, Sem.run_pure]
theorem YI.conv {I : Zh} {M : List Zt} {a0 : Act} {ds : List Nat} {c : Cd} {o : Oper} {s t : TypeId} {y : Operand} {u : Value} (ho : ops[c.i]? = some o) (hg : o.guard = none) (hd : o.dst = some c.d) (hop : o.op = .convert s t y) (hu : ∀ x, (Act.over a0 ds x).eval y = u)
  (hc : ∀ J w, I.le J -> St J M w -> ∃ v J' w', (convert s t u).run P w = .ok v w' /\ J.le J' /\ St J' M w' /\ c.T v J') : YI P ops Q I M a0 ds c := by
 refine YI.run ho hg hd (fun x J w Z5 hs => ?_)
 obtain ⟨v, J', w', hr, h⟩ := hc J w Z5 hs
 refine ⟨v, J', w', ?_, h⟩
 unfold execOp
 simp only [hop, hu x, Sem.run_bind, hr, Result.andThen_ok, Sem.run_pure]
theorem WW {L : Array Bool} {is : List Nat} {j : Nat} {d : Bool} (h : j ∉ is) : (Zm (fun _ => true) is L).getD j d = L.getD j d := by
 rw [Array.getD_eq_getD_getElem?, Array.getD_eq_getD_getElem?, Xj, if_neg (fun h' => h h'.1)]
theorem getD_mark_in {L : Array Bool} {is : List Nat} {j : Nat} (h : j ∈ is) : (Zm (fun _ => true) is L).getD j true = true := by
 rw [Array.getD_eq_getD_getElem?, Xj]
 by_cases h2 : j < L.size
 ·rw [if_pos ⟨h, h2⟩]; rfl
 rw [if_neg (fun h' => h2 h'.2)]; simp [Array.getElem?_eq_none (Nat.le_of_not_lt h2)]
theorem unlisted {L : Array Bool} {j : Nat} (h : L.getD j true = false) : L.getD j false = false := by
 rcases Nat.lt_or_ge j L.size with h' | h'
 ·simp [h'] at h ⊢; exact h
 simp [Array.getElem?_eq_none h'] at h
theorem setChk_first {L : Array Bool} {done : List Nat} : ∀ (is prev : List Nat), setChk md ops L prev is = true -> (∀ i ∈ prev, i ∈ done) -> (∃ k ∈ is, k ∉ done) ->
  ∃ k ∈ is, k ∉ done /\ L.getD k true = false /\ ∃ o, ops[k]? = some o /\ ∀ e ∈ o.after, Region.binds md e = true -> L.getD e.on false = true \/ e.on ∈ done
 | [], _, _, _, ⟨_, h, _⟩ => by cases h
 | i :: is, prev, hc, hp, ⟨k, hk, hkd⟩ => by
  unfold setChk at hc
  rw [Bool.and_eq_true, Bool.and_eq_true] at hc
  obtain ⟨h1, h2, h3⟩ := hc
  by_cases hd : i ∈ done
  ·have hk2 : k ∈ is := by
    rcases List.mem_cons.1 hk with rfl | h
    ·exact absurd hd hkd
    exact h
   obtain ⟨k2, h4, h5⟩ := setChk_first is (i :: prev) h3 (fun j hj => by
    rcases List.mem_cons.1 hj with rfl | h
    ·exact hd
    exact hp j h) ⟨k, hk2, hkd⟩
   exact ⟨k2, List.mem_cons_of_mem _ h4, h5⟩
  refine ⟨i, List.mem_cons_self .., hd, by simpa using h1, ?_⟩
  cases ho : ops[i]? with
  | none => rw [ho] at h2; cases h2
  | some o =>
   rw [ho] at h2
   refine ⟨o, rfl, fun e he hb => ?_⟩
   have h4 := List.all_eq_true.1 h2 e (by simpa using he)
   rw [hb] at h4
   simp only [Bool.not_true, Bool.false_or, Bool.or_eq_true] at h4
   rcases h4 with h4 | h4
   ·exact .inl h4
   exact .inr (hp _ (by simpa using h4))
theorem setChk_un {L : Array Bool} : ∀ (is prev : List Nat), setChk md ops L prev is = true -> ∀ k ∈ is, L.getD k true = false
 | [], _, _, _, h => by cases h
 | i :: is, prev, hc, k, hk => by
  unfold setChk at hc
  rw [Bool.and_eq_true, Bool.and_eq_true] at hc
  obtain ⟨h1, h2, h3⟩ := hc
  rcases List.mem_cons.1 hk with rfl | h
  ·simpa using h1
  exact setChk_un is _ h3 k h
theorem set_ready {L : Array Bool} {is done : List Nat} (hok : setOk md ops L is = true) (hsub : ∀ i ∈ done, i ∈ is) {k : Nat} (hk : k ∈ is) (hkd : k ∉ done) :
  (∃ m, m ∈ Region.ready md ops (Zm (fun _ => true) done L)) /\ ∀ j ∈ Region.ready md ops (Zm (fun _ => true) done L), j ∈ is /\ j ∉ done := by
 unfold setOk at hok
 rw [Bool.and_eq_true, List.all_eq_true] at hok
 obtain ⟨hr, hf⟩ := hok
 have hun := setChk_un is [] hr
 constructor
 ·obtain ⟨m, _, hmd, h1, o, ho, hall⟩ := setChk_first (done := done) is [] hr (fun _ h => by cases h) ⟨k, hk, hkd⟩
  refine ⟨m, mem_ready.2 ⟨by rw [WW hmd]; exact h1, o, ho, fun e he hb => ?_⟩⟩
  by_cases hd : e.on ∈ done
  ·have h3 := hun _ (hsub _ hd)
   have h4 : e.on < L.size := by
    rcases Nat.lt_or_ge e.on L.size with h' | h'
    ·exact h'
    simp [Array.getElem?_eq_none h'] at h3
   rw [Array.getD_eq_getD_getElem?, Xj, if_pos ⟨hd, h4⟩]
   rfl
  rw [WW hd]; exact (hall e he hb).resolve_right hd
 intro j hj
 obtain ⟨h1, o, ho, hall⟩ := mem_ready.1 hj
 have hjd : j ∉ done := fun h => by rw [getD_mark_in h] at h1; cases h1
 rw [WW hjd] at h1
 refine ⟨?_, hjd⟩
 apply Classical.byContradiction
 intro hji
 have Z0 : j < ops.size := (Array.getElem?_eq_some_iff.1 ho).1
 have h2 := hf j (List.mem_range.2 Z0)
 have h3 : is.contains j = false := by simpa using hji
 rw [h1, h3, ho] at h2
 simp only [Bool.false_or, Bool.or_eq_true, List.all_eq_true, List.any_eq_true, Bool.and_eq_true, beq_iff_eq, Bool.not_eq_true'] at h2
 rcases h2 with h2 | ⟨e, he, hb, h4, h5⟩
 ·obtain ⟨e, he, hb, heq⟩ := h2 k hk
  have h6 := hall e (by simpa using he) hb
  rw [heq, WW hkd, unlisted (hun k hk)] at h6
  cases h6
 have h6 := hall e (by simpa using he) hb
 have h7 : e.on ∉ done := fun h => by have := hsub _ h; simp at h5; exact h5 this
 rw [WW h7, h4] at h6
 cases h6
theorem anyH_set {I : Zh} {M : List Zt} {a0 : Act} {L : Array Bool} {cs : List Cd} {fuel : Nat} {w0 : World}
  (hok : setOk md ops L (cs.map (·.i)) = true) (hnd : (cs.map (·.d)).Nodup) (hni : (cs.map (·.i)).Nodup)
  (hS : ∀ J w, I.le J -> St J M w -> S w) (ZX : St I M w0)
  (hT : ∀ c ∈ cs, ∀ v J J', J.le J' -> c.T v J -> c.T v J')
  (hstep : ∀ c ∈ cs, YI P ops Q I M a0 (cs.map (·.d)) c)
  (hend : ∀ (x : Nat -> Value) J w, I.le J -> St J M w -> (∀ c ∈ cs, c.T (x c.d) J) -> wpAnyH P md ops Q S fuel (Zm (fun _ => true) (cs.map (·.i)) L) (Act.over a0 (cs.map (·.d)) x) w) :
  wpAnyH P md ops Q S (fuel + cs.length) L a0 w0 := by
 have key : ∀ (n : Nat) (rem done : List Cd), rem.length = n -> (done ++ rem).Perm cs -> ∀ (x : Nat -> Value) J w, I.le J -> St J M w -> (∀ c ∈ done, c.T (x c.d) J) ->
   wpAnyH P md ops Q S (fuel + n) (Zm (fun _ => true) (done.map (·.i)) L) (Act.over a0 (cs.map (·.d)) x) w := by
  intro n
  induction n with
  | zero =>
   intro rem done hl hp x J w Z5 hs hT'
   have : rem = [] := List.length_eq_zero_iff.1 hl
   subst this
   rw [List.append_nil] at hp
   have e : Zm (fun _ => true) (done.map (·.i)) L = Zm (fun _ => true) (cs.map (·.i)) L := setAll_ext (fun j => (hp.map (·.i)).mem_iff) (fun _ _ => rfl)
   rw [e]
   exact hend x J w Z5 hs (fun c hc => hT' c (hp.mem_iff.2 hc))
  | succ n ih =>
   intro rem done hl hp x J w Z5 hs hT'
   have hmem : ∀ c, c ∈ cs ↔ c ∈ done \/ c ∈ rem := fun c => by rw [<- hp.mem_iff, List.mem_append]
   have hnp : ((done ++ rem).map (·.i)).Nodup := (hp.map (·.i)).nodup_iff.2 hni
   have hndp : ((done ++ rem).map (·.d)).Nodup := (hp.map (·.d)).nodup_iff.2 hnd
   obtain ⟨c0, r0, hr0⟩ : ∃ c r, rem = c :: r := by
    cases rem with
    | nil => cases hl
    | cons c r => exact ⟨c, r, rfl⟩
   have hc0 : c0.i ∉ done.map (·.i) := by
    intro h
    rw [hr0, List.map_append, List.nodup_append] at hnp
    exact hnp.2.2 _ h _ (by simp) rfl
   have hsub : ∀ i ∈ done.map (·.i), i ∈ cs.map (·.i) := fun i hi => by
    obtain ⟨c, hc, rfl⟩ := List.mem_map.1 hi
    exact List.mem_map_of_mem ((hmem c).2 (.inl hc))
   obtain ⟨hk, hj⟩ := set_ready hok hsub (k := c0.i) (List.mem_map_of_mem ((hmem c0).2 (.inr (by rw [hr0]; exact List.mem_cons_self ..)))) hc0
   refine ⟨fun h => (by obtain ⟨m, hm⟩ := hk; rw [h] at hm; cases hm), fun j hjr => ?_⟩
   obtain ⟨hji, hjd⟩ := hj j hjr
   obtain ⟨c, hc, rfl⟩ := List.mem_map.1 hji
   have hcr : c ∈ rem := ((hmem c).1 hc).resolve_left (fun h => hjd (List.mem_map_of_mem h))
   obtain ⟨r1, r2, hr⟩ := List.append_of_mem hcr
   subst hr
   have hp2 : ((done ++ [c]) ++ (r1 ++ r2)).Perm cs := by
    refine List.Perm.trans ?_ hp
    rw [List.append_assoc]
    exact List.Perm.append_left done (by simpa using (List.perm_middle (a := c) (l₁ := r1) (l₂ := r2)).symm)
   refine hstep c hc x J w Z5 hs _ (VL fun v J' w' hle' hs' hT2 => ?_)
   refine ⟨hS J' w' (Z5.trans hle') hs', ?_⟩
   rw [over_put (List.mem_map_of_mem hc)]
   have e : (Zm (fun _ => true) (done.map (·.i)) L).setIfInBounds c.i true = Zm (fun _ => true) ((done ++ [c]).map (·.i)) L := by
    unfold Zm
    rw [List.map_append, List.foldl_append]
    rfl
   rw [e]
   refine ih (r1 ++ r2) (done ++ [c]) (by simp at hl ⊢; omega) hp2 (upd x c.d v) J' w' (Z5.trans hle') hs' (fun c' hc' => ?_)
   rcases List.mem_append.1 hc' with h | h
   ·have hne : c'.d ≠ c.d := fun he => by
     rw [List.map_append, List.nodup_append] at hndp
     exact hndp.2.2 _ (List.mem_map_of_mem h) _ (List.mem_map_of_mem (List.mem_append_right _ (List.mem_cons_self ..))) he
    show c'.T (if c'.d = c.d then v else x c'.d) J'
    rw [if_neg hne]
    exact hT c' ((hmem c').2 (.inl h)) _ _ _ hle' (hT' c' h)
   rw [List.mem_singleton.1 h]
   show c.T (if c.d = c.d then v else x c.d) J'
   rw [if_pos rfl]
   exact hT2
 have := key cs.length cs [] rfl (by simp) (fun d => a0.tmps.getD d undef) I w0 (.refl I) ZX (fun c hc => by cases hc)
 rw [<- over_self] at this
 exact this
end
theorem St.litNew {I : Zh} {M : List Zt} {w : World} (h : St I M w) (l : List UInt8) (cs : Array Value) (hc : cs.toList = Z6 l) (hl : l.length <= maxLen) : St I (row 5 1 (.slice (some ⟨w.heap.size, 0, none⟩) l.length l.length) l.length (Z6 l) :: M) (w.alloc (.cells cs 5)) := by
 have hz : cs.size = l.length * 1 := by rw [<- Array.length_toList, hc, Xb, Nat.mul_one]
 have ho := World.ownsRow_lit (base := w.heap.size) (e := 5) (size := 1) w cs l.length (Nat.le_refl _) hl hz
 rw [hc] at ho
 exact St.fresh h (h.grow _) ho
theorem u32_cells {x : Int} (h0 : 0 <= x) (h1 : x <= 4294967295) : [Value.int .u8 (x / 16777216), .int .u8 (x / 65536 % 256), .int .u8 (x / 256 % 256), .int .u8 (x % 256)] = Z6 (ZM x) := by
 simp only [Z6, ZM, List.map_cons, List.map_nil]
 rw [Yz (by omega) (by omega), Yz (by omega) (by omega), Yz (by omega) (by omega), Yz (by omega) (by omega)]
theorem u16_cells (x : Int) : [Value.int .u8 (x / 256 % 256), .int .u8 (x % 256)] = Z6 (Zi (x % 65536)) := by
 simp only [Z6, Zi, List.map_cons, List.map_nil]
 rw [Yz (by omega) (by omega), Yz (by omega) (by omega)]
 have h1 : x % 65536 / 256 = x / 256 % 256 := by omega
 have h2 : x % 65536 % 256 = x % 256 := by omega
 rw [h1, h2]
set_option maxHeartbeats 2000000 in
theorem four66 (I : Zh) (M : List Zt) (w : World) (x : Int) (hx : 0 <= x /\ x <= 4294967295) (ZX : St I M w) : Calls Try.prog 66 #[.int .u32 x] w (YR I (NewB I M (ZM x))) := by
 obtain ⟨h0, h1⟩ := hx
 have HS := VL (ZX.litNew (ZM x) #[.int .u8 (x / 16777216), .int .u8 (x / 65536 % 256), .int .u8 (x / 256 % 256), .int .u8 (x % 256)] (u32_cells h0 h1) (by rw [Zy]; decide))
 clear ZX
 go_enter Try.func66, Try.ntmps66
 go_wp2
 go_returns
 exact YR.mk (.refl I) HS.out ⟨rfl, _, _, rfl, Nat.le_refl _, rfl⟩
set_option maxHeartbeats 2000000 in
theorem fourR (I : Zh) (M : List Zt) (w : World) (x : Int) (hx : 0 <= x /\ x <= 4294967295) (ZX : St I M w) : Calls Try.prog 36 #[.int .u32 x] w (YR I (NewB I M (ZM x))) := by
 have HC := VL (four66 I M w x hx ZX)
 clear ZX
 go_enter Try.func36, Try.ntmps36
 go_wp2_with fail
 go_at_call 66
 refine HC.out.mono ?_
 clear HC
 rintro e w2 ⟨_, _, _, rfl, _, hs, rfl, A, c, rfl, hc, rfl⟩
 have HS := VL hs
 clear hs
 go_wp2
 go_returns
 exact YR.mk (.refl I) HS.out ⟨rfl, A, c, rfl, hc, rfl⟩
set_option maxHeartbeats 2000000 in
theorem twoR (I : Zh) (M : List Zt) (w : World) (x : Int) (ZX : St I M w) : Calls Try.prog 39 #[.int .i64 x] w (YR I (NewB I M (Zi (x % 65536)))) := by
 have HS := VL (ZX.litNew (Zi (x % 65536)) #[.int .u8 (x / 256 % 256), .int .u8 (x % 256)] (u16_cells x) (by rw [Zz]; decide))
 clear ZX
 go_enter Try.func39, Try.ntmps39
 go_wp2
 go_returns
 exact YR.mk (.refl I) HS.out ⟨rfl, _, _, rfl, Nat.le_refl _, rfl⟩
def Xy (l : List UInt8) (v : Value) (J : Zh) : Prop := ∃ A c, v = .slice A l.length c /\ Zq J A l
theorem Xy.mono {l : List UInt8} {v : Value} {I J : Zh} (h : Xy l v I) (hl : I.le J) : Xy l v J := by
 obtain ⟨A, c, e, hb⟩ := h
 exact ⟨A, c, e, hb.mono hl⟩
theorem Xy.nil (J : Zh) : Xy [] (.slice none 0 0) J := ⟨none, 0, rfl, Zq.nil _ _⟩
def Apd (I : Zh) (M : List Zt) (l : List UInt8) (v : Value) (w : World) : Prop := St I (row 5 1 v l.length (Z6 l) :: M) w
theorem Yq {ops : Array Oper} {rest : List Oper} {o : Oper} {a : Act} {Q : Exit -> Act -> World -> Prop} {w : World} (hgd : o.guard = none) (s y : Operand)
  (ho : o.op = .call { callee := .builtin .append, args := #[s, y], argTypes := #[24, 24] })
  (I : Zh) (M : List Zt) (v u : Value) (bs cs : List UInt8) (hv : a.eval s = v) (hu : a.eval y = u) (ZX : St I (row 5 1 v bs.length (Z6 bs) :: M) w) (hb : Xy cs u I) (hl : bs.length + cs.length <= 140737488355328)
  (h : ∀ v' w', Apd I M (bs ++ cs) v' w' -> wpList Try.prog ops Q rest (a.put o.dst v') w') : wpList Try.prog ops Q (o :: rest) a w := by
 obtain ⟨i0, hi, hz0, hz1, hz2⟩ := info_parts infoU8
 obtain ⟨A, c, rfl, hb⟩ := hb
 refine Zj w hgd s y 24 24 ho 0 5 i0 (.int .u8 0) 1 1 Try.underlying24 hi hz0 hz1 hz2 rfl v bs.length (Z6 bs) hv (show World.ownsRow _ 0 5 1 v bs.length (Z6 bs) from ZX.head) _ cs.length (Z6 cs) hu (hb.src ZX Try.underlying24 c) (by unfold maxLen; omega) (by omega) (Nat.zero_le _) ?_
 intro v' w' hown Zr hat
 rw [<- WG, <- List.length_append] at hown
 exact h v' w' (ZX.grown Zr hown hat)
def RoBs : List (List UInt8) -> List Value -> Zh -> Prop
 | [], [], _ => True
 | b :: bs, v :: vs, J => Xy b v J /\ RoBs bs vs J
 | _, _, _ => False
theorem RoBs.mono {I J : Zh} (hl : I.le J) : ∀ {bs : List (List UInt8)} {vs : List Value}, RoBs bs vs I -> RoBs bs vs J
 | [], [], _ => trivial
 | _ :: _, _ :: _, h => ⟨h.1.mono hl, RoBs.mono hl h.2⟩
 | [], _ :: _, h => h.elim
 | _ :: _, [], h => h.elim
theorem RoBs.len {J : Zh} : ∀ {bs : List (List UInt8)} {vs : List Value}, RoBs bs vs J -> bs.length = vs.length
 | [], [], _ => rfl
 | _ :: _, _ :: _, h => by rw [List.length_cons, List.length_cons, RoBs.len h.2]
 | [], _ :: _, h => h.elim
 | _ :: _, [], h => h.elim
theorem RoBs.at {J : Zh} : ∀ {bs : List (List UInt8)} {vs : List Value}, RoBs bs vs J -> ∀ (i : Nat) (h1 : i < bs.length) (h2 : i < vs.length), Xy bs[i] vs[i] J
 | [], [], _, _, h1, _ => absurd h1 (Nat.not_lt_zero _)
 | _ :: _, _ :: _, h, 0, _, _ => h.1
 | _ :: _, _ :: _, h, i + 1, h1, h2 => RoBs.at h.2 i (Nat.lt_of_succ_lt_succ h1) (Nat.lt_of_succ_lt_succ h2)
 | [], _ :: _, h, _, _, _ => h.elim
 | _ :: _, [], h, _, _, _ => h.elim
theorem flatten_take_le (bs : List (List UInt8)) (i : Nat) (h : i < bs.length) : (bs.take i).flatten.length + bs[i].length <= bs.flatten.length := by
 have e : bs.flatten = (bs.take i).flatten ++ (bs[i] ++ (bs.drop (i + 1)).flatten) := by
  conv => lhs; rw [<- List.take_append_drop i bs, List.flatten_append, List.drop_eq_getElem_cons h, List.flatten_cons]
 rw [e, List.length_append, List.length_append]
 omega
set_option maxHeartbeats 4000000 in
theorem WC (I : Zh) (M : List Zt) (w : World) (A : Option Addr) (z : Nat) (bs : List (List UInt8)) (vs : List Value) (hc : Cells I A vs) (hr : RoBs bs vs I) (hn : vs.length <= 1000000) (hl : bs.flatten.length <= 140737488355328) (ZX : St I M w) :
  Calls Try.prog 35 #[.slice A vs.length z] w (YR I (NewB I M bs.flatten)) := by
 have HC := VL hc
 have HR := VL hr
 have hlen := hr.len
 have HS := VL (ZX.nil (e := 5) (size := 1))
 clear hc hr ZX
 go_enter Try.func35, Try.ntmps35
 go_upto_region 3 with fail
 go_loopw [3, 7] (fun ov iv wr => ∃ (i : Nat), i <= vs.length /\ iv = .int .i64 i /\ Hid (St I (row 5 1 ov (bs.take i).flatten.length (Z6 (bs.take i).flatten) :: M) wr)) (fun _ iv _ => vs.length - (intOf iv).toNat)
 case atStart => exact ⟨0, by omega, rfl, HS⟩
 case round =>
  obtain ⟨i, hi, rfl, HSr⟩ := hrel
  clear HS
  by_cases Z0 : i < vs.length
  ·obtain ⟨g, o, rfl, ZK⟩ := HC.out.at (by omega)
   have y0 := ZK _ _ HSr.out i Z0
   have HB := VL (HR.out.at i (by omega) Z0)
   have Z5 := flatten_take_le bs i (by omega)
   have HT := VL (show (bs.take (i + 1)).flatten = (bs.take i).flatten ++ bs[i]'(by omega) by rw [List.take_succ_eq_append_getElem (by omega), List.flatten_append]; simp)
   clear ZK
   obtain ⟨A1, c1, hv1, hb1⟩ := HB.out
   rw [hv1] at y0
   have HB1 := VL (show Xy (bs[i]'(by omega)) (.slice A1 (bs[i]'(by omega)).length c1) I from ⟨A1, c1, rfl, hb1⟩)
   clear HB hv1 hb1
   go_wp2_with (at_builtin; refine Yq rfl _ _ rfl I M _ _ _ _ rfl rfl HSr.out HB1.out (by omega) ?_)
   intro v3 w3 hs
   rw [<- HT.out] at hs
   have hs := VL (show St _ _ _ from hs)
   clear HSr HT HB1 y0
   go_wp2
   go_roundw
   case rel => exact ⟨i + 1, by omega, by go_num, hs⟩
   case measure => simp [intOf]; omega
  have hin : i = bs.length := by omega
  have hs := HSr.out
  rw [List.take_of_length_le (by omega)] at hs
  obtain ⟨A2, c2, rfl⟩ := ZW (show World.ownsRow _ 0 5 1 _ _ _ from hs.at 0 rfl)
  have hcap := (Yh (show World.ownsRow _ 0 5 1 _ _ _ from hs.at 0 rfl)).2
  have HF := VL hs
  clear hs HSr
  generalize bs.flatten = l at *
  go_wp2
  go_returns
  exact YR.mk (.refl I) HF.out ⟨rfl, A2, c2, rfl, hcap, rfl⟩
end Go.Proofs.Ytddopbbmgpnjjaa
