/- part. -/
import Derived.Test.YtddopbbmgpnjjaaZT08
import Derived.Shelf.RegionOpen
import Derived.OwnWalkIn
import Derived.TacticsInMore
import Derived.LoopNIn
import Derived.LoopIn
namespace Go.Proofs.Ytddopbbmgpnjjaa
set_option linter.unusedSimpArgs false
open Go.RowKit
def dst (s x : Int) : Int := (x - s - 1) % 65536
def Y7 (s x : Int) : Bool := decide (dst s x < 16)
theorem dst_wrap (s x : Int) : IntKind.u16.wrap (IntKind.u16.wrap (x - s) - 1) = dst s x := by
 rw [Y9, Y9]
 unfold dst
 omega
theorem dst_ok (s x : Int) : 0 <= dst s x /\ dst s x <= 65535 := by unfold dst; omega
def VE (s x m : Int) : Int := bits BinOp.or IntKind.u16 m (IntKind.u16.wrap (2 ^ (dst s x).toNat))
def XL (s : Int) (l : List Int) : Int := l.foldl (fun m x => if Y7 s x then VE s x m else m) 0
def X0 (s : Int) (l : List Int) : List Int := l.filter fun x => !Y7 s x
theorem farL_le (s : Int) (l : List Int) : (X0 s l).length <= l.length := List.length_filter_le _ _
def XA : List Int -> List (Int × Int)
 | [] => []
 | s :: r => (s, XL s r) :: XA (X0 s r)
termination_by l => l.length
decreasing_by
 have := farL_le s r
 simp
 omega
def XJ (x : Int × Int) : List UInt8 := Zi x.1 ++ Zi x.2
def YG (l : List Int) : List UInt8 := (XA l).flatMap XJ
theorem Wj : YG [] = [] := by unfold YG; rw [XA]; rfl
theorem VF (s : Int) (r : List Int) : YG (s :: r) = XJ (s, XL s r) ++ YG (X0 s r) := by unfold YG; rw [XA]; rfl
theorem maskL_snoc (s : Int) (l : List Int) (x : Int) : XL s (l ++ [x]) = if Y7 s x then VE s x (XL s l) else XL s l := by simp [XL]
theorem farL_snoc (s : Int) (l : List Int) (x : Int) : X0 s (l ++ [x]) = if Y7 s x then X0 s l else X0 s l ++ [x] := by
 unfold X0
 rw [List.filter_append]
 cases h : Y7 s x <;> simp [h]
abbrev PSt := Zh × List UInt8 × Value
def XP (l D B p : Nat) (M : List Zt) (o : Obj) (s : PSt) (W : World) : Prop := ∃ u, St s.1 (bk B 44 #[s.2.2] :: obk l o :: obk D (.deferred (some [])) :: row 5 1 u s.2.1.length (Z6 s.2.1) :: bk p 60 #[u] :: M) W
def stepP (s : PSt) (x : Int × Int) : PSt := (s.1, s.2.1 ++ XJ x, s.2.2)
def okP (s : PSt) (x : Int × Int) : Prop := s.2.1.length <= 140737488350000 /\ (0 <= x.1 /\ x.1 <= 65535) /\ (0 <= x.2 /\ x.2 <= 65535)
theorem X3 (op : BinOp) (a b : Int) (h : op = .or) : 0 <= bits op IntKind.u16 a b /\ bits op IntKind.u16 a b <= 65535 := by
 subst h
 show 0 <= IntKind.u16.wrap _ /\ IntKind.u16.wrap _ <= 65535
 rw [Y9]
 omega
theorem maskL_ok (s : Int) (l : List Int) : 0 <= XL s l /\ XL s l <= 65535 := by
 unfold XL
 suffices h : ∀ (l : List Int) (m : Int), 0 <= m /\ m <= 65535 -> 0 <= l.foldl (fun m x => if Y7 s x then VE s x m else m) m /\ l.foldl (fun m x => if Y7 s x then VE s x m else m) m <= 65535 from h l 0 (by decide)
 intro l
 induction l with
 | nil => intro m h; exact h
 | cons x r ih =>
  intro m h
  rw [List.foldl_cons]
  apply ih
  split
  ·exact X3 _ _ _ rfl
  exact h
theorem WZ : ∀ (n : Nat) (l : List Int), l.length <= n -> (YG l).length <= 4 * l.length := by
 intro n
 induction n with
 | zero =>
  intro l h
  have e : l = [] := List.eq_nil_of_length_eq_zero (by omega)
  rw [e, Wj]
  simp
 | succ n ih =>
  intro l h
  rcases l with _ | ⟨s, r⟩
  ·rw [Wj]; simp
  rw [VF, List.length_append, List.length_cons]
  have h1 := farL_le s r
  have h2 := ih (X0 s r) (by rw [List.length_cons] at h; omega)
  have h3 : (XJ (s, XL s r)).length = 4 := rfl
  omega
theorem Cells.at0 {I : Zh} {A : Option Addr} {v : Value} {cs : List Value} (h : Cells I A (v :: cs)) : ∃ g o, A = some ⟨g, o, none⟩ /\ (∀ (M : List Zt) (w : World), St I M w -> w.cell? ⟨g, o, none⟩ = some v) /\ Cells I (some ⟨g, o + 1, none⟩) cs := by
 obtain ⟨g, o, e, hc⟩ := h (by simp)
 refine ⟨g, o, e, fun M w hs => hs.cell (hc 0 (by simp)), fun h0 => ⟨g, o + 1, rfl, fun j hj => ?_⟩⟩
 have := hc (j + 1) (by simp; omega)
 rw [Nat.add_assoc, Nat.add_comm 1 j, this]
 rfl
theorem info42 : (Try.prog.info? 42).map (fun i => (i.zero, i.size, i.bytes)) = some (some (.int .u16 0), 1, 2) := by kernel_rfl
set_option maxRecDepth 100000 in
set_option maxHeartbeats 8000000 in
theorem pieces70 (I : Zh) (M : List Zt) (l D B p : Nat) (o : Obj) (l0 : List UInt8) (ZH : List Int) (A0 : Option Addr) (c0 : Nat) (hA : Cells I A0 (flat Yp ZH)) (hc0 : ZH.length <= c0) (Zw : ∀ x ∈ ZH, 0 <= x /\ x <= 65535) (hln : ZH.length <= 17592186040000) (hl0 : l0.length <= 70368744170000)
  (hY : ∀ (s : PSt) (x : Int × Int) (W : World), XP l D B p M o s W -> okP s x -> YieldAt Fence.wide 0 Try.prog l #[.int .u16 x.1, .int .u16 x.2] W fun e W' => e = .returned (.bool true) /\ XP l D B p M o (stepP s x) W')
  (w : World) (hX : XP l D B p M o (I, l0, .slice A0 ZH.length c0) w) :
  Calls Try.prog 70 #[.func (.yield l) #[] #[], .pointer (some ⟨B, 0, none⟩)] w fun e W' => (∃ v, e = .returned v) /\ ∃ s : PSt, (I.le s.1 /\ s.2.1 = l0 ++ YG ZH) /\ XP l D B p M o s W' := by
 have H0 := VL (And.intro hA (And.intro hc0 (And.intro Zw (And.intro hln hX))))
 have HY := VL hY
 clear hA hc0 Zw hX hY
 go_enter Try.func70, Try.ntmps70
 go_wp2_with fail
 go_loopw [] (fun wr => Hid (∃ J bs A c L, I.le J /\ Cells J A (flat Yp L) /\ L.length <= c /\ (∀ x ∈ L, 0 <= x /\ x <= 65535) /\ L.length <= 17592186040000 /\ bs ++ YG L = l0 ++ YG ZH /\ XP l D B p M o (J, bs, .slice A L.length c) wr)) (fun wr => lenAt wr B)
 case atStart => exact ⟨I, l0, A0, c0, ZH, .refl I, H0.out.1, H0.out.2.1, H0.out.2.2.1, H0.out.2.2.2.1, rfl, H0.out.2.2.2.2⟩
 case round =>
  obtain ⟨J, bs, A, c, L, Z5, hcl, hlc, hrg, hll, hbs, u, hs⟩ := hrel.out
  clear hrel H0
  simp only at hs
  obtain ⟨hcB, hfB, hltB⟩ := (show ZO wr B 44 #[.slice A L.length c] from hs.at 0 rfl).one
  have hlen : lenAt wr B = L.length := by unfold lenAt; rw [hcB]
  have HLEN := VL hlen
  clear hlen
  rcases L with _ | ⟨s, r⟩
  ·have HF := VL (show (∃ v, (Ending.returned (.tuple #[])) = .returned v) /\ ∃ s : PSt, (I.le s.1 /\ s.2.1 = l0 ++ YG ZH) /\ XP l D B p M o s wr from ⟨⟨_, rfl⟩, (J, bs, .slice A 0 c), ⟨Z5, by rw [<- hbs, Wj, List.append_nil]⟩, u, hs⟩)
   clear hs hcl hbs hrg
   go_wp2
   go_returns
   exact HF.out
  obtain ⟨g, o2, rfl, ZK⟩ := Cells.at0 (v := .int .u16 s) hcl
  have hcs := ZK.1 _ _ hs
  have hCT := VL ZK.2
  have HS := VL hs
  have HBS := VL hbs
  have HRG := VL hrg
  have hlr : r.length + 1 <= 17592186040000 := by simpa using hll
  have hlc2 : r.length + 1 <= c := by simpa using hlc
  have hlc3 : (r.length : Int) + 1 <= c := by omega
  rw [List.length_cons] at hcB HLEN
  clear ZK hs hbs hrg hll hlc hcl
  go_upto_block 2 with fail
  obtain ⟨A2, hA2⟩ : ∃ A2 : Option Addr, A2 = (if c = 1 then some ⟨g, o2, none⟩ else some ⟨g, o2 + 1, none⟩) := ⟨_, rfl⟩
  rw [<- hA2]
  have HC2 : Hid (Cells J A2 (flat Yp r)) := VL (by
   rw [hA2]
   split
   ·have hr : r = [] := by
     cases r
     ·rfl
     simp at hlc2; omega
    rw [hr]; exact Cells.nil _ _
   exact hCT.out)
  have hmr : ∀ x ∈ r, 0 <= x /\ x <= 65535 := fun x hx => HRG.out x (List.mem_cons_of_mem _ hx)
  have HMR := VL hmr
  clear hA2 hCT hmr
  go_cut [4, 5] (fun v4 v5 wx => v4 = .int .u16 (XL s r) /\ St J (row 42 1 v5 (X0 s r).length (flat Yp (X0 s r)) :: bk B 44 #[.slice (some ⟨g, o2, none⟩) (r.length + 1) c] :: obk l o :: obk D (.deferred (some [])) :: row 5 1 u bs.length (Z6 bs) :: bk p 60 #[u] :: M) wx)
  case first =>
   go_wp2_with fail
   go_loopw [18, 4, 5] (fun iv v4 v5 wr => ∃ k : Nat, k <= r.length /\ iv = .int .i64 k /\ v4 = .int .u16 (XL s (r.take k)) /\ ∃ F c5, v5 = .slice F (X0 s (r.take k)).length c5 /\ Hid (St J (row 42 1 v5 (X0 s (r.take k)).length (flat Yp (X0 s (r.take k))) :: bk B 44 #[.slice (some ⟨g, o2, none⟩) (r.length + 1) c] :: obk l o :: obk D (.deferred (some [])) :: row 5 1 u bs.length (Z6 bs) :: bk p 60 #[u] :: M) wr)) (fun iv _ _ _ => r.length - (intOf iv).toNat)
   case atStart => exact ⟨0, by omega, rfl, rfl, none, 0, rfl, HS.out.nil⟩
   case round =>
    obtain ⟨k, hk, rfl, rfl, F, c5, rfl, hh⟩ := hrel
    by_cases Z0 : k < r.length
    ·obtain ⟨gx, ox, rfl, hcx⟩ := flat_get (s := 1) (fun _ => rfl) HC2.out (by omega) (by decide)
     replace hcx : wr.cell? ⟨gx, ox + k, none⟩ = some (.int .u16 r[k]) := by
      have := hcx _ _ hh.out k Z0 0 (by decide)
      simpa using this
     have hmem := HMR.out _ (List.getElem_mem Z0)
     obtain ⟨x, hx⟩ : ∃ x, x = r[k] := ⟨_, rfl⟩
     have htk : r.take (k + 1) = r.take k ++ [x] := by rw [hx]; exact List.take_succ_eq_append_getElem Z0
     rw [<- hx] at hcx hmem
     have hdw := dst_wrap s x
     have hdo := dst_ok s x
     have hfl : (X0 s (r.take k)).length <= k := by have h1 := farL_le s (r.take k); rw [List.length_take] at h1; omega
     have HTK := VL htk
     have HH := VL hh.out
     clear htk hx hh
     have hM1 := maskL_snoc s (r.take k) x
     have hF1 := farL_snoc s (r.take k) x
     rw [<- HTK.out] at hM1 hF1
     by_cases hb : dst s x < 16
     ·have hn : Y7 s x = true := decide_eq_true hb
      rw [hn, if_pos rfl] at hM1 hF1
      have HM := VL (And.intro hM1 hF1)
      clear hM1 hF1 hn hfl hmem
      go_wp2
      go_roundw
      case rel => exact ⟨k + 1, by omega, by go_num, by rw [HM.out.1]; rfl, F, c5, by rw [HM.out.2], by rw [HM.out.2]; exact HH.out⟩
      case measure => simp [intOf]; omega
     have hn : Y7 s x = false := decide_eq_false hb
     have hb2 : decide (dst s x < 16) = false := hn
     rw [hn] at hM1 hF1
     simp only [Bool.false_eq_true, if_false] at hM1 hF1
     have HM := VL (And.intro hM1 hF1)
     obtain ⟨i0, hi, hz0, hz1, hz2⟩ := info_parts info42
     have Hs := VL (HH.out.Yw (P := Try.prog) (size := 1) (n := 1) (t := 44) (e := 42) (cs := #[.int .u16 x]) rfl (by decide) Try.underlying44 (by simp [Value.oneCell']))
     have H := VL (HH.out.grow (.cells #[.int .u16 x] 42))
     have HFL := VL hfl
     clear hM1 hF1 hn hmem HH hfl hb
     go_wp2_with (at_builtin; refine Zj _ rfl _ _ 44 44 rfl 0 42 i0 (.int .u16 0) 1 2 Try.underlying44 hi hz0 hz1 hz2 rfl _ (X0 s (r.take k)).length (flat Yp (X0 s (r.take k))) rfl H.out.head _ _ _ rfl Hs.out (by have := HFL.out; unfold maxLen; omega) (by have := HFL.out; omega) (Nat.zero_le _) ?_)
     intro v' w3 hown Zr hat
     have Zb : w3.ownsRow 0 42 1 v' (X0 s (r.take (k + 1))).length (flat Yp (X0 s (r.take (k + 1)))) := by
      rw [HM.out.2, Z7, List.length_append]
      exact hown
     have Zf := H.out.grown Zr Zb (by simpa using hat)
     obtain ⟨F', c', rfl⟩ := ZW Zb
     have HS3 := VL Zf
     clear hown Zb Zr hat Zf Hs H
     go_wp2
     go_roundw
     case rel => exact ⟨k + 1, by omega, by go_num, by rw [HM.out.1], F', c', rfl, HS3.out⟩
     case measure => simp [intOf]; omega
    have hkk : k = r.length := by omega
    subst hkk
    have HF := VL (show XL s (r.take r.length) = XL s r /\ St J (row 42 1 (.slice F (X0 s (r.take r.length)).length c5) (X0 s r).length (flat Yp (X0 s r)) :: bk B 44 #[.slice (some ⟨g, o2, none⟩) (r.length + 1) c] :: obk l o :: obk D (.deferred (some [])) :: row 5 1 u bs.length (Z6 bs) :: bk p 60 #[u] :: M) wr from by
     have h := hh.out
     rw [List.take_length] at h ⊢
     exact ⟨rfl, h⟩)
    clear hh
    go_wp2
    go_meet
    exact ⟨by rw [HF.out.1], HF.out.2⟩
  case rest =>
   obtain ⟨rfl, hs⟩ := hcut
   obtain ⟨F, c5, rfl⟩ := ZW (show wc.ownsRow 0 42 1 u5 _ _ from hs.head)
   have hcap := (Yh hs.head).2
   obtain ⟨J2, Zd, YN, hF⟩ := hs.ZR
   have hfl := farL_le s r
   have hok : okP (J2, bs, .slice (some ⟨g, o2, none⟩) (r.length + 1) c) (s, XL s r) := by
    refine ⟨?_, HRG.out s (by simp), maskL_ok s r⟩
    have h1 := congrArg List.length HBS.out
    rw [List.length_append, List.length_append] at h1
    have h2 := WZ _ ZH (Nat.le_refl _)
    show bs.length <= _
    omega
   have hy0 := HY.out (J2, bs, .slice (some ⟨g, o2, none⟩) (r.length + 1) c) (s, XL s r) wc ⟨u, YN⟩ hok
   simp only at hy0
   obtain ⟨fn, tmps, assign, body, hy, hR⟩ := hy0
   have HR := VL hR
   have HF := VL (And.intro (Z5.trans Zd) (And.intro hF hcap))
   clear hs YN hF hcap hok hcB hfB hltB hcs HS Z5 Zd hR
   go_upto_region 11 with fail
   refine (wpIn_wide (n := 0)).1 ?_
   gi_wp2
   refine ⟨rfl, HR.out.mono ?_⟩
   rintro e W' ⟨rfl, u', hs⟩
   obtain ⟨hcB, hfB, hltB⟩ := (show ZO W' B 44 #[.slice (some ⟨g, o2, none⟩) (r.length + 1) c] from hs.at 0 rfl).one
   have YN : St J2 (bk B 44 #[.slice F (X0 s r).length c5] :: obk l o :: obk D (.deferred (some [])) :: row 5 1 u' (bs ++ XJ (s, XL s r)).length (Z6 (bs ++ XJ (s, XL s r))) :: bk p 60 #[u'] :: M) (W'.setCell ⟨B, 0, none⟩ (.slice F (X0 s r).length c5)) := hs.set 0 _
   have HS2 := VL YN
   have HREL : Hid (bs ++ XJ (s, XL s r) ++ YG (X0 s r) = l0 ++ YG ZH) := VL (by rw [List.append_assoc, <- VF]; exact HBS.out)
   have HLN : Hid (lenAt (W'.setCell ⟨B, 0, none⟩ (.slice F (X0 s r).length c5)) B = (X0 s r).length) := VL (by
    obtain ⟨h, _, _⟩ := (show ZO _ B 44 #[.slice F (X0 s r).length c5] from YN.at 0 rfl).one
    unfold lenAt; rw [h])
   clear hs YN HR hy
   gi_wp2
   go_wp2
   go_roundw
   case rel => exact ⟨J2, bs ++ XJ (s, XL s r), F, c5, X0 s r, HF.out.1, HF.out.2.1, HF.out.2.2, fun x hx => HRG.out x (List.mem_cons_of_mem _ (List.mem_filter.1 hx).1), by omega, HREL.out, u', HS2.out⟩
   case measure => rw [HLN.out, HLEN.out]; omega
def YC (a : Int) : Int := if a = 65536 then 0 else if 0 <= a /\ a <= 255 then 1 else 2
def XN (a : Int) : Int × Int := (YC a, a)
set_option maxRecDepth 100000 in
set_option maxHeartbeats 8000000 in
theorem marks71 {σ : Type} (ok : σ -> Int × Int -> Prop) (step : σ -> Int × Int -> σ) (X : σ -> World -> Prop) (I : Zh) (l B : Nat) (list : List Int) (A : Option Addr) (c : Nat) (hA : Cells I A (flat XC list)) (hln : list.length <= 17592186040000)
  (ZX : ∀ s W, X s W -> ∃ M', St I (bk B 48 #[.slice A list.length c] :: M') W)
  (hY : ∀ (s : σ) (x : Int × Int) (W : World), X s W -> ok s x -> YieldAt Fence.wide 0 Try.prog l #[.int .i64 x.1, .int .i64 x.2] W fun e W' => e = .returned (.bool true) /\ X (step s x) W')
  (s0 : σ) (hok : ∀ k (h : k < list.length), ok (((list.take k).map XN).foldl step s0) (XN list[k]))
  (w : World) (hX : X s0 w) :
  Calls Try.prog 71 #[.func (.yield l) #[] #[], .pointer (some ⟨B, 0, none⟩)] w fun e W' => (∃ v, e = .returned v) /\ X ((list.map XN).foldl step s0) W' := by
 have H0 := VL hX
 have HY := VL hY
 have HST := VL ZX
 have HOK := VL hok
 have HA := VL hA
 obtain ⟨M0, hs0⟩ := ZX _ _ hX
 obtain ⟨hcB, hfB, hltB⟩ := (show ZO w B 48 #[.slice A list.length c] from hs0.at 0 rfl).one
 clear hX hY ZX hok hA hs0
 go_enter Try.func71, Try.ntmps71
 go_wp2_with fail
 go_loopw [8] (fun iv wr => ∃ k : Nat, k <= list.length /\ iv = .int .i64 k /\ Hid (X (((list.take k).map XN).foldl step s0) wr)) (fun iv _ => list.length - (intOf iv).toNat)
 case atStart => exact ⟨0, by omega, rfl, H0.out⟩
 case round =>
  obtain ⟨k, hk, rfl, hh⟩ := hrel
  clear H0 hcB hfB hltB
  by_cases Z0 : k < list.length
  ·obtain ⟨M1, ZY⟩ := HST.out _ _ hh.out
   obtain ⟨g, o, rfl, ZK⟩ := flat_get (s := 1) (fun _ => rfl) HA.out (by omega) (by decide)
   replace ZK : wr.cell? ⟨g, o + k, none⟩ = some (.int .i64 list[k]) := by
    have := ZK _ _ ZY k Z0 0 (by decide)
    simpa using this
   have hy0 := HY.out _ (XN list[k]) wr hh.out (HOK.out k Z0)
   have htk : (list.take (k + 1)).map XN = (list.take k).map XN ++ [XN list[k]] := by
    rw [List.take_succ_eq_append_getElem Z0, List.map_append]; rfl
   obtain ⟨x, hx⟩ : ∃ x, x = list[k] := ⟨_, rfl⟩
   rw [<- hx] at ZK hy0 htk
   obtain ⟨fn, tmps, assign, body, hy, hR⟩ := hy0
   have HR := VL hR
   have HTK := VL htk
   have HW := VL (WI x 0 255 wr)
   clear ZY hx htk hh hR
   simp only [XN] at hy
   go_upto_block 2 with fail
   go_cut [5] (fun v5 wx => v5 = .int .i64 (YC x) /\ wx = wr)
   case first =>
    by_cases h1 : x = 65536
    ·have HE := VL (show YC x = 0 from by unfold YC; rw [if_pos h1])
     have g1 : (x == 65536) = true := by rw [h1]; rfl
     clear h1
     go_wp2
     go_meet
     exact ⟨by rw [HE.out], rfl⟩
    have g1 : (x == 65536) = false := beq_eq_false_iff_ne.2 h1
    cases hb : XQ x 0 255
    ·have HE := VL (show YC x = 2 from by unfold YC; rw [if_neg h1, if_neg (WH hb)])
     clear h1
     go_wp2_with fail
     go_at_call 19
     refine HW.out.mono ?_
     rintro e w2 ⟨rfl, hw⟩
     subst hw
     go_wp2
     go_meet
     exact ⟨by rw [HE.out], rfl⟩
    have HE := VL (show YC x = 1 from by unfold YC; rw [if_neg h1, if_pos (Xi hb)])
    clear h1
    go_wp2_with fail
    go_at_call 19
    refine HW.out.mono ?_
    rintro e w2 ⟨rfl, hw⟩
    subst hw
    go_wp2
    go_meet
    exact ⟨by rw [HE.out], rfl⟩
   case rest =>
    obtain ⟨rfl, rfl⟩ := hcut
    go_upto_region 8 with fail
    refine (wpIn_wide (n := 0)).1 ?_
    gi_wp2
    refine ⟨rfl, HR.out.mono ?_⟩
    rintro e W' ⟨rfl, hX⟩
    have HX : Hid (X (((list.take (k + 1)).map XN).foldl step s0) W') := VL (by rw [HTK.out, List.foldl_append]; exact hX)
    clear hX HR hy
    gi_wp2
    go_wp2
    go_roundw
    case rel => exact ⟨k + 1, by omega, by go_num, HX.out⟩
    case measure => simp [intOf]; omega
  have hkk : k = list.length := by omega
  subst hkk
  have HF : Hid (X ((list.map XN).foldl step s0) wr) := VL (by have h := hh.out; rw [List.take_length] at h; exact h)
  clear hh
  go_wp2
  go_returns
  exact ⟨⟨_, rfl⟩, HF.out⟩
structure Ms where
 Wz : List UInt8
 far : List UInt8
 n : Nat
 ch : Int
def chM (s : Ms) (m : Int) : Int := bits BinOp.or IntKind.u16 s.ch (IntKind.u16.wrap (m * 2 ^ (12 - 2 * (s.n % 7))))
def XH (N : Nat) (s : Ms) : Bool := decide ((s.n + 1) % 7 = 0) || decide (s.n + 1 = N)
def Y2 (N : Nat) (s : Ms) (x : Int × Int) : Ms where
 Wz := if XH N s then s.Wz ++ Zi (bits BinOp.or IntKind.u16 49152 (chM s x.1)) else s.Wz
 far := if x.1 = 1 then s.far ++ [byteOf (x.2 % 256)] else if x.1 = 2 then s.far ++ Zi (x.2 % 65536) else s.far
 n := s.n + 1
 ch := if XH N s then 0 else chM s x.1
def ms0 : Ms := ⟨[], [], 0, 0⟩
def WL (l : List Int) : Ms := (l.map XN).foldl (Y2 l.length) ms0
def WB (l : List Int) : List UInt8 := (WL l).Wz ++ (WL l).far
def XU (x : Wn) : List UInt8 := ZM x.src ++ ZM (x.seq * 16777216)
def Xf (p : Pk) : List UInt8 :=
 if p.kind = 1 then XG [p.ZN / 4294967296, p.ZN % 4294967296, p.ZP, p.ZI, p.ZJ]
 else if p.kind = 3 then [byteOf 1, byteOf p.name.size] ++ p.name.data.toList ++ [byteOf 0]
 else if p.kind = 5 then YG p.ZH
 else if p.kind = 6 then Zi p.base ++ Zi p.ZF.length ++ ZM (p.ref * 256 + p.count) ++ WB p.ZF
 else []
def Zu (p : Pk) : List UInt8 :=
 (if p.kind = 4 then [] else ZM p.ZA) ++ (if 5 <= p.kind then ZM p.ZC else []) ++ Xf p ++ p.ZE.flatMap YK ++ XG p.ZG ++ p.ZB.flatMap XU
def XV (p : Pk) : Int := if (Z8 p.kind).2 < 0 then p.ZE.length + p.ZG.length else (Z8 p.kind).2
def ZV (p : Pk) : List UInt8 := [byteOf (128 + XV p), byteOf (Z8 p.kind).1] ++ Zi ((YH (Zu p)).length / 4 : Nat) ++ YH (Zu p)
structure Y6 (p : Pk) : Prop where
 ZA : 0 <= p.ZA /\ p.ZA <= 4294967295
 ZC : 0 <= p.ZC /\ p.ZC <= 4294967295
 ZN : 0 <= p.ZN /\ p.ZN <= 18446744073709551615
 ZP : 0 <= p.ZP /\ p.ZP <= 4294967295
 ZI : 0 <= p.ZI /\ p.ZI <= 4294967295
 ZJ : 0 <= p.ZJ /\ p.ZJ <= 4294967295
 ZE : ∀ x ∈ p.ZE, RpOk x
 ZG : ∀ x ∈ p.ZG, 0 <= x /\ x <= 4294967295
 ZH : ∀ x ∈ p.ZH, 0 <= x /\ x <= 65535
 base : 0 <= p.base /\ p.base <= 65535
 ref : 0 <= p.ref /\ p.ref <= 16777215
 count : 0 <= p.count /\ p.count <= 255
 ZB : ∀ x ∈ p.ZB, (0 <= x.src /\ x.src <= 4294967295) /\ (0 <= x.seq /\ x.seq <= 255)
theorem Wl (l : List Int) : XG l = l.flatMap ZM := rfl
theorem St.rot23 {I : Zh} {M : List Zt} {w : World} {a b c d e : Zt} (h : St I (a :: b :: c :: d :: e :: M) w) : St I (d :: e :: a :: b :: c :: M) w :=
 h.perm (List.Perm.append_right M (List.perm_append_comm (l₁ := [a, b, c]) (l₂ := [d, e])))
theorem St.rot32 {I : Zh} {M : List Zt} {w : World} {a b c d e : Zt} (h : St I (a :: b :: c :: d :: e :: M) w) : St I (c :: d :: e :: a :: b :: M) w :=
 h.perm (List.Perm.append_right M (List.perm_append_comm (l₁ := [a, b]) (l₂ := [c, d, e])))
theorem YD {α : Type} {f : α -> List UInt8} {s : Nat} (hs : ∀ x, (f x).length = s) (l : List α) : (l.flatMap f).length = s * l.length := by
 induction l with
 | nil => simp
 | cons x r ih => rw [List.flatMap_cons, List.length_append, ih, hs, List.length_cons, Nat.mul_add, Nat.mul_one, Nat.add_comm]
theorem Yr {α : Type} (f : α -> List UInt8) (l : List α) (k : Nat) (h : k < l.length) : (l.take (k + 1)).flatMap f = (l.take k).flatMap f ++ f l[k] := by
 rw [List.take_succ_eq_append_getElem h, List.flatMap_append, List.flatMap_cons, List.flatMap_nil, List.append_nil]
theorem Xl {α : Type} {f : α -> List UInt8} {s n : Nat} (hs : ∀ x, (f x).length = s) (l : List α) (k : Nat) (hn : l.length <= n) : ((l.take k).flatMap f).length <= s * n := by
 rw [YD hs, List.length_take]
 exact Nat.mul_le_mul_left s (Nat.le_trans (Nat.min_le_right _ _) hn)
theorem Za (x : Rp) : (YK x).length = 24 := by unfold YK; rw [WV]; rfl
theorem Wm (x : Wn) : (XU x).length = 8 := rfl
theorem Zy (x : Int) : (ZM x).length = 4 := rfl
theorem Zz (x : Int) : (Zi x).length = 2 := rfl
theorem Y0 {p : Pk} (h : Good p) : p.ZE.length <= 31 /\ p.ZG.length <= 31 /\ p.ZH.length <= 32 /\ p.ZF.length <= 255 /\ p.ZB.length <= 8 /\ p.name.size <= 64 := by
 obtain ⟨hk, he⟩ := h
 have h1 : p.ZE = (YO p).ZE := congrArg Pk.ZE he
 have h2 : p.ZG = (YO p).ZG := congrArg Pk.ZG he
 have h3 : p.ZH = (YO p).ZH := congrArg Pk.ZH he
 have h4 : p.ZF = (YO p).ZF := congrArg Pk.ZF he
 have h5 : p.ZB = (YO p).ZB := congrArg Pk.ZB he
 have h6 : p.name = (YO p).name := congrArg Pk.name he
 have l1 := congrArg List.length h1
 have l2 := congrArg List.length h2
 have l3 := congrArg List.length h3
 have l4 := congrArg List.length h4
 have l5 := congrArg List.length h5
 have l6 := congrArg ByteArray.size h6
 clear h1 h2 h3 h4 h5 h6 he
 have z : (⟨#[]⟩ : ByteArray).size = 0 := rfl
 unfold YO at l1 l2 l3 l4 l5 l6
 unfold YF at hk
 rcases hk with ⟨h | h, _, h7⟩ | ⟨h, _, h7⟩ | ⟨h, _, h7⟩ | ⟨h, _, _, h7⟩ | ⟨h, _, _, h7, _⟩ | h | ⟨h, _, h7⟩ <;> simp [h] at l1 l2 l3 l4 l5 l6 <;> simp [z, l1, l2, l3, l4, l5, l6] <;> omega
theorem XB {p : Pk} (h : Good p) : 0 <= XV p /\ XV p <= 31 := by
 have hl := Y0 h
 obtain ⟨hk, he⟩ := h
 have h1 : p.ZE = (YO p).ZE := congrArg Pk.ZE he
 have h2 : p.ZG = (YO p).ZG := congrArg Pk.ZG he
 have l1 := congrArg List.length h1
 have l2 := congrArg List.length h2
 clear h1 h2 he
 unfold YO at l1 l2
 unfold XV
 unfold YF at hk
 rcases hk with ⟨h | h, _, h7⟩ | ⟨h, _, h7⟩ | ⟨h, _, h7⟩ | ⟨h, _, _, h7⟩ | ⟨h, _, _, h7, _⟩ | h | ⟨h, _, h7⟩ <;> simp [h] at l1 l2 <;> simp [h, Z8, l1, l2] <;> omega
theorem X7 {n : Int} (h0 : 0 <= n) (h1 : n <= 31) : bits BinOp.or IntKind.i64 128 n = 128 + n := by
 have : ∀ k : Fin 32, bits BinOp.or IntKind.i64 128 (k.1 : Int) = 128 + (k.1 : Int) := by decide
 have := this ⟨n.toNat, by omega⟩
 simp only [] at this
 rw [show ((n.toNat : Nat) : Int) = n from by omega] at this
 exact this
theorem idx5 (a b c d e : Int) (k : Nat) (hk : k < [a, b, c, d, e].length) (w : World) : (Instr.index 95 (.agg #[.int .u32 a, .int .u32 b, .int .u32 c, .int .u32 d, .int .u32 e]) (.int .i64 k)).run Try.prog w = .ok (.int .u32 ([a, b, c, d, e][k])) w := by
 have h : k = 0 \/ k = 1 \/ k = 2 \/ k = 3 \/ k = 4 := by simp only [List.length_cons, List.length_nil] at hk; omega
 rcases h with rfl | rfl | rfl | rfl | rfl
 ·have h := (by kernel_rfl : (Instr.index 95 (.agg #[.int .u32 a, .int .u32 b, .int .u32 c, .int .u32 d, .int .u32 e]) (.int .i64 0)).run Try.prog w = .ok (.int .u32 a) w)
  simpa using h
 ·have h := (by kernel_rfl : (Instr.index 95 (.agg #[.int .u32 a, .int .u32 b, .int .u32 c, .int .u32 d, .int .u32 e]) (.int .i64 1)).run Try.prog w = .ok (.int .u32 b) w)
  simpa using h
 ·have h := (by kernel_rfl : (Instr.index 95 (.agg #[.int .u32 a, .int .u32 b, .int .u32 c, .int .u32 d, .int .u32 e]) (.int .i64 2)).run Try.prog w = .ok (.int .u32 c) w)
  simpa using h
 ·have h := (by kernel_rfl : (Instr.index 95 (.agg #[.int .u32 a, .int .u32 b, .int .u32 c, .int .u32 d, .int .u32 e]) (.int .i64 3)).run Try.prog w = .ok (.int .u32 d) w)
  simpa using h
 have h := (by kernel_rfl : (Instr.index 95 (.agg #[.int .u32 a, .int .u32 b, .int .u32 c, .int .u32 d, .int .u32 e]) (.int .i64 4)).run Try.prog w = .ok (.int .u32 e) w)
 simpa using h
theorem St.drop23 {I : Zh} {M : List Zt} {w : World} {a b c d : Zt} (h : St I (a :: b :: c :: d :: M) w) : St I (a :: b :: M) w :=
 (h.perm (List.Perm.append_right M (List.perm_append_comm (l₁ := [a, b]) (l₂ := [c, d])))).drop.drop
theorem St.X4 {I : Zh} {M : List Zt} {w : World} {a b c d : Zt} (h : St I (a :: b :: c :: d :: M) w) : St I (c :: d :: a :: b :: M) w :=
 h.perm (List.Perm.append_right M (List.perm_append_comm (l₁ := [a, b]) (l₂ := [c, d])))
def ob (g : Nat) (o : Obj) : Zt where
 blk := some g
 ok w := w.heap[g]? = some o
 loc _ _ h hb := (hb g rfl).trans h
 lt _ h b hb := by injection hb with hb; subst hb; exact (Array.getElem?_eq_some_iff.1 h).1
theorem St.allocO {I : Zh} {M : List Zt} {w : World} (h : St I M w) (o : Obj) : ∃ J, I.le J /\ St J M (w.alloc o) /\ J.obj w.heap.size = some o := by
 have h1 : St I (ob w.heap.size o :: M) (w.alloc o) := St.more (w := w) (h.grow _) (heap_alloc_new w _) (fun b hb => by injection hb with hb; subst hb; simp) h
 obtain ⟨h2, h3⟩ := h1.freeze (b := w.heap.size) rfl
 refine ⟨_, h2, h3, ?_⟩
 show (if w.heap.size = w.heap.size then _ else _) = _
 rw [if_pos rfl]
 exact h1.head
theorem bytesRow_at (s : ByteArray) (c k : Nat) (h : k < s.size) : (bytesRow s c)[k]? = some (.int .u8 s[k].toNat) := by
 have : k < s.data.size := h
 simp only [bytesRow]
 rw [Array.getElem?_append_left (by simpa using this)]
 rw [Array.getElem?_map, Array.getElem?_eq_getElem this]; rfl
theorem St.bytesOf {I : Zh} {M : List Zt} {w : World} (h : St I M w) (s : ByteArray) (c : Nat) (x : Nat × Nat) : ∃ J, I.le J /\ St J M (w.drew.alloc (.cells (bytesRow s c) 5 x)) /\ Zq J (some ⟨w.heap.size, 0, none⟩) (ls s) := by
 obtain ⟨J, h1, h2, h3⟩ := h.drew.allocO (.cells (bytesRow s c) 5 x)
 refine ⟨J, h1, h2, fun h0 => ⟨w.heap.size, 0, rfl, fun j hj => ?_⟩⟩
 have hj' : j < s.size := by rw [Xb, ls_len] at hj; exact hj
 have h4 : J.obj w.heap.size = some (.cells (bytesRow s c) 5 x) := h3
 simp only [Zh.cell?, h4, Nat.zero_add]
 have := bytesRow_at s c j hj'
 show (if false = true then none else (bytesRow s c)[j]?) = _
 rw [if_neg (by decide), this]
 simp [Z6, bv, ls]
 rfl
theorem pieces51 (w : World) (A : Option Addr) (n c : Nat) : Calls Try.prog 51 #[.slice A n c] w fun e w' => e = .returned (.func (.func 70) #[] #[.pointer (some ⟨w.heap.size, 0, none⟩)]) /\ w' = w.alloc (.cells #[.slice A n c] 44) := by
 go_enter Try.func51, Try.ntmps51
 go_wp2
 go_returns
 exact ⟨rfl, rfl⟩
theorem marks53 (w : World) (A : Option Addr) (n c : Nat) : Calls Try.prog 53 #[.slice A n c] w fun e w' => e = .returned (.func (.func 71) #[] #[.pointer (some ⟨w.heap.size, 0, none⟩)]) /\ w' = w.alloc (.cells #[.slice A n c] 48) := by
 go_enter Try.func53, Try.ntmps53
 go_wp2
 go_returns
 exact ⟨rfl, rfl⟩
theorem St.rot21 {I : Zh} {M : List Zt} {w : World} {a b c : Zt} (h : St I (a :: b :: c :: M) w) : St I (c :: a :: b :: M) w :=
 h.perm (List.Perm.append_right M (List.perm_append_comm (l₁ := [a, b]) (l₂ := [c])))
theorem St.rot12 {I : Zh} {M : List Zt} {w : World} {a b c : Zt} (h : St I (a :: b :: c :: M) w) : St I (b :: c :: a :: M) w :=
 h.perm (List.Perm.append_right M (List.perm_append_comm (l₁ := [a]) (l₂ := [b, c])))
theorem St.rot15 {I : Zh} {M : List Zt} {w : World} {a b c d e f : Zt} (h : St I (a :: b :: c :: d :: e :: f :: M) w) : St I (b :: c :: d :: e :: f :: a :: M) w :=
 h.perm (List.Perm.append_right M (List.perm_append_comm (l₁ := [a]) (l₂ := [b, c, d, e, f])))
theorem zip2 {t : Array Value} {a b : Value} {i j : Tmp} : (#[i, j].zip #[a, b]).foldl (fun t (p, v) => t.setIfInBounds p v) t = (t.setIfInBounds i a).setIfInBounds j b := by
 simp
theorem range_two {P : Program} {α σ : Type} (ok : σ -> α -> Prop) (step : σ -> α -> σ) (s0 : σ) {g : Operand} (i j i2 j2 : Tmp) {assign body : Code} {Q : Exit -> Act -> World -> Prop} {a : Act} {w : World} {gf : Nat} {lb : Array Value}
  (hg : a.eval g = .func (.func gf) #[] lb) (eg : ∀ args w, (callFunc gf args).run P w = .ok (.enter gf args) w) (e1 e2 : α -> Value)
  (X : Obj -> σ -> World -> Prop) (hX : ∀ o pre W, X o pre W -> W.heap[w.heap.size + 1]? = some o) (hput : ∀ o o' pre W, X o pre W -> X o' pre (W.putObj (w.heap.size + 1) o'))
  (h0 : ∀ o, X o s0 ((w.alloc (.deferred (some []))).alloc o))
  (hassign : ∀ (l : Nat) (x : α) (W : World) (K : Act -> World -> Prop), K { tmps := (((a.tmps.setIfInBounds i (e1 x)).setIfInBounds j (e2 x)).setIfInBounds i2 (e1 x)).setIfInBounds j2 (e2 x), defers := [] } W -> assign.wpIn (Fence.wide.inRound l) 0 P (Exit.then K (fun _ _ _ => False)) { tmps := (a.tmps.setIfInBounds i (e1 x)).setIfInBounds j (e2 x), defers := [] } W)
  (hbody : ∀ (o : Obj) (pre : σ) (x : α) (W : World), X o pre W -> ok pre x -> body.wpIn (Fence.wide.inRound (w.heap.size + 1)) 0 P (fun e _ W' => e = .normal /\ X o (step pre x) W') { tmps := (((a.tmps.setIfInBounds i (e1 x)).setIfInBounds j (e2 x)).setIfInBounds i2 (e1 x)).setIfInBounds j2 (e2 x), defers := [] } W)
  (S : σ -> Prop)
  (hiter : ∀ (o : Obj), (∀ (pre : σ) (x : α) (W : World), X o pre W -> ok pre x -> YieldAt Fence.wide 0 P (w.heap.size + 1) #[e1 x, e2 x] W fun e W' => e = .returned (.bool true) /\ X o (step pre x) W') ->
   ∀ W, X o s0 W -> CallsIn Fence.wide 0 P gf (#[.func (.yield (w.heap.size + 1)) #[] #[]] ++ lb) W fun e W' => (∃ v, e = .returned v) /\ ∃ xs, S xs /\ X o xs W')
  (hdone : ∀ (o : Obj) (xs : σ) (W : World), S xs -> X o xs W -> Q .normal { a with defers := { target := .collected w.heap.size, args := #[] } :: a.defers } W) :
  (Code.rangeFunc g #[i, j] assign body).wp P Q a w :=
 range_wp ok step s0 hg eg (encs := fun x => #[e1 x, e2 x]) (fun _ => rfl) X hX hput h0 (fun x => { tmps := (((a.tmps.setIfInBounds i (e1 x)).setIfInBounds j (e2 x)).setIfInBounds i2 (e1 x)).setIfInBounds j2 (e2 x), defers := [] }) (fun l x W K hK => by rw [zip2]; exact hassign l x W K hK) hbody S hiter hdone
theorem wrap_i64 {x : Int} (h0 : -9223372036854775808 <= x) (h1 : x <= 9223372036854775807) : IntKind.i64.wrap x = x := by
 simp only [IntKind.wrap, IntKind.signed, IntKind.bits]
 simp
 omega
theorem or_ref {a b : Int} (ha : 0 <= a /\ a <= 16777215) (hb : 0 <= b /\ b <= 255) : bits BinOp.or IntKind.u32 (a * 256) b = a * 256 + b := by
 obtain ⟨m, rfl⟩ := Int.eq_ofNat_of_zero_le ha.1
 obtain ⟨n, rfl⟩ := Int.eq_ofNat_of_zero_le hb.1
 have h := or_low m n 8 (by simp; omega) (by simp) (by simp; omega)
 have e : (m : Int) * 256 = ((m * 2 ^ 8 : Nat) : Int) := by simp
 rw [e, h]
 omega
def XM (J : Zh) (A : Option Addr) (n c : Nat) (l0 : List UInt8) (l D PB B F NB CB : Nat) (M : List Zt) (o : Obj) (s : Ms) (W : World) : Prop :=
 ∃ u uf, St J (row 5 1 u (l0 ++ s.Wz).length (Z6 (l0 ++ s.Wz)) :: bk B 60 #[u] :: row 5 1 uf s.far.length (Z6 s.far) :: bk F 60 #[uf] :: bk NB 3 #[.int .i64 s.n] :: bk CB 42 #[.int .u16 s.ch] :: bk PB 48 #[.slice A n c] :: obk l o :: obk D (.deferred (some [])) :: M) W
end Go.Proofs.Ytddopbbmgpnjjaa
