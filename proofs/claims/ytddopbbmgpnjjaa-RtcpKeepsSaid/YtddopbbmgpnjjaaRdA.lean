/- the document's words: Two, Four, Join. -/
import Derived.Test.YtddopbbmgpnjjaaRcZ
import Derived.Test.YtddopbbmgpnjjaaSo
namespace Go.Proofs.Ytddopbbmgpnjjaa
open Go.RowKit
set_option linter.unusedSimpArgs false

theorem St.litNew {I : Img} {M : List Res} {w : World} (h : St I M w) (l : List UInt8) (cs : Array Value) (hc : cs.toList = bvs l) (hl : l.length ≤ maxLen) : St I (row 5 1 (.slice (some ⟨w.heap.size, 0, none⟩) l.length l.length) l.length (bvs l) :: M) (w.alloc (.cells cs 5)) := by
  have hz : cs.size = l.length * 1 := by rw [← Array.length_toList, hc, bvs_len, Nat.mul_one]
  have ho := World.ownsRow_lit (base := w.heap.size) (e := 5) (size := 1) w cs l.length (Nat.le_refl _) hl hz
  rw [hc] at ho
  exact St.fresh h (h.grow _) ho
theorem u32_cells {x : Int} (h0 : 0 ≤ x) (h1 : x ≤ 4294967295) : [Value.int .u8 (x / 16777216), .int .u8 (x / 65536 % 256), .int .u8 (x / 256 % 256), .int .u8 (x % 256)] = bvs (u32B x) := by
  simp only [bvs, u32B, List.map_cons, List.map_nil]
  rw [bv_byteOf (by omega) (by omega), bv_byteOf (by omega) (by omega), bv_byteOf (by omega) (by omega), bv_byteOf (by omega) (by omega)]
theorem u16_cells (x : Int) : [Value.int .u8 (x / 256 % 256), .int .u8 (x % 256)] = bvs (u16B (x % 65536)) := by
  simp only [bvs, u16B, List.map_cons, List.map_nil]
  rw [bv_byteOf (by omega) (by omega), bv_byteOf (by omega) (by omega)]
  have h1 : x % 65536 / 256 = x / 256 % 256 := by omega
  have h2 : x % 65536 % 256 = x % 256 := by omega
  rw [h1, h2]
set_option maxHeartbeats 2000000 in
theorem four66 (I : Img) (M : List Res) (w : World) (x : Int) (hx : 0 ≤ x ∧ x ≤ 4294967295) (hst : St I M w) : Calls Try.prog 66 #[.int .u32 x] w (Ret I (NewB I M (u32B x))) := by
  obtain ⟨h0, h1⟩ := hx
  have HS := Lib.hid (hst.litNew (u32B x) #[.int .u8 (x / 16777216), .int .u8 (x / 65536 % 256), .int .u8 (x / 256 % 256), .int .u8 (x % 256)] (u32_cells h0 h1) (by rw [u32B_len]; decide))
  clear hst
  go_enter Try.func66, Try.ntmps66
  go_wp2
  go_returns
  exact Ret.mk (.refl I) HS.out ⟨rfl, _, _, rfl, Nat.le_refl _, rfl⟩
set_option maxHeartbeats 2000000 in
theorem fourR (I : Img) (M : List Res) (w : World) (x : Int) (hx : 0 ≤ x ∧ x ≤ 4294967295) (hst : St I M w) : Calls Try.prog 36 #[.int .u32 x] w (Ret I (NewB I M (u32B x))) := by
  have HC := Lib.hid (four66 I M w x hx hst)
  clear hst
  go_enter Try.func36, Try.ntmps36
  go_wp2_with fail
  go_at_call 66
  refine HC.out.mono ?_
  clear HC
  rintro e w2 ⟨_, _, _, rfl, _, hs, rfl, A, c, rfl, hc, rfl⟩
  have HS := Lib.hid hs
  clear hs
  go_wp2
  go_returns
  exact Ret.mk (.refl I) HS.out ⟨rfl, A, c, rfl, hc, rfl⟩
set_option maxHeartbeats 2000000 in
theorem twoR (I : Img) (M : List Res) (w : World) (x : Int) (hst : St I M w) : Calls Try.prog 39 #[.int .i64 x] w (Ret I (NewB I M (u16B (x % 65536)))) := by
  have HS := Lib.hid (hst.litNew (u16B (x % 65536)) #[.int .u8 (x / 256 % 256), .int .u8 (x % 256)] (u16_cells x) (by rw [u16B_len]; decide))
  clear hst
  go_enter Try.func39, Try.ntmps39
  go_wp2
  go_returns
  exact Ret.mk (.refl I) HS.out ⟨rfl, _, _, rfl, Nat.le_refl _, rfl⟩
/-- bytes to be read only -/
def RoB (l : List UInt8) (v : Value) (J : Img) : Prop := ∃ A c, v = .slice A l.length c ∧ Byts J A l
theorem RoB.mono {l : List UInt8} {v : Value} {I J : Img} (h : RoB l v I) (hl : I.le J) : RoB l v J := by
  obtain ⟨A, c, e, hb⟩ := h
  exact ⟨A, c, e, hb.mono hl⟩
theorem RoB.nil (J : Img) : RoB [] (.slice none 0 0) J := ⟨none, 0, rfl, Byts.nil _ _⟩
/-- bytes that are owned -/
def Apd (I : Img) (M : List Res) (l : List UInt8) (v : Value) (w : World) : Prop := St I (row 5 1 v l.length (bvs l) :: M) w
/-- append of bytes -/
theorem wpList_appB {ops : Array Oper} {rest : List Oper} {o : Oper} {a : Act} {Q : Exit → Act → World → Prop} {w : World} (hgd : o.guard = none) (s y : Operand)
    (ho : o.op = .call { callee := .builtin .append, args := #[s, y], argTypes := #[24, 24] })
    (I : Img) (M : List Res) (v u : Value) (bs cs : List UInt8) (hv : a.eval s = v) (hu : a.eval y = u) (hst : St I (row 5 1 v bs.length (bvs bs) :: M) w) (hb : RoB cs u I) (hl : bs.length + cs.length ≤ 140737488355328)
    (h : ∀ v' w', Apd I M (bs ++ cs) v' w' → wpList Try.prog ops Q rest (a.put o.dst v') w') : wpList Try.prog ops Q (o :: rest) a w := by
  obtain ⟨i0, hi, hz0, hz1, hz2⟩ := info_parts infoU8
  obtain ⟨A, c, rfl, hb⟩ := hb
  refine wpList_append_src w hgd s y 24 24 ho 0 5 i0 (.int .u8 0) 1 1 Try.underlying24 hi hz0 hz1 hz2 rfl v bs.length (bvs bs) hv (show World.ownsRow _ 0 5 1 v bs.length (bvs bs) from hst.head) _ cs.length (bvs cs) hu (hb.src hst Try.underlying24 c) (by unfold maxLen; omega) (by omega) (Nat.zero_le _) ?_
  intro v' w' hown hgrow hat
  rw [← bvs_append, ← List.length_append] at hown
  exact h v' w' (hst.grown hgrow hown hat)
/-- pieces to be joined -/
def RoBs : List (List UInt8) → List Value → Img → Prop
  | [], [], _ => True
  | b :: bs, v :: vs, J => RoB b v J ∧ RoBs bs vs J
  | _, _, _ => False
theorem RoBs.mono {I J : Img} (hl : I.le J) : ∀ {bs : List (List UInt8)} {vs : List Value}, RoBs bs vs I → RoBs bs vs J
  | [], [], _ => trivial
  | _ :: _, _ :: _, h => ⟨h.1.mono hl, RoBs.mono hl h.2⟩
  | [], _ :: _, h => h.elim
  | _ :: _, [], h => h.elim
theorem RoBs.len {J : Img} : ∀ {bs : List (List UInt8)} {vs : List Value}, RoBs bs vs J → bs.length = vs.length
  | [], [], _ => rfl
  | _ :: _, _ :: _, h => by rw [List.length_cons, List.length_cons, RoBs.len h.2]
  | [], _ :: _, h => h.elim
  | _ :: _, [], h => h.elim
theorem RoBs.at {J : Img} : ∀ {bs : List (List UInt8)} {vs : List Value}, RoBs bs vs J → ∀ (i : Nat) (h1 : i < bs.length) (h2 : i < vs.length), RoB bs[i] vs[i] J
  | [], [], _, _, h1, _ => absurd h1 (Nat.not_lt_zero _)
  | _ :: _, _ :: _, h, 0, _, _ => h.1
  | _ :: _, _ :: _, h, i + 1, h1, h2 => RoBs.at h.2 i (Nat.lt_of_succ_lt_succ h1) (Nat.lt_of_succ_lt_succ h2)
  | [], _ :: _, h, _, _, _ => h.elim
  | _ :: _, [], h, _, _, _ => h.elim
theorem flatten_take_le (bs : List (List UInt8)) (i : Nat) (h : i < bs.length) : (bs.take i).flatten.length + bs[i].length ≤ bs.flatten.length := by
  have e : bs.flatten = (bs.take i).flatten ++ (bs[i] ++ (bs.drop (i + 1)).flatten) := by
    conv => lhs; rw [← List.take_append_drop i bs, List.flatten_append, List.drop_eq_getElem_cons h, List.flatten_cons]
  rw [e, List.length_append, List.length_append]
  omega
set_option maxHeartbeats 4000000 in
theorem joinR (I : Img) (M : List Res) (w : World) (A : Option Addr) (z : Nat) (bs : List (List UInt8)) (vs : List Value) (hc : Cells I A vs) (hr : RoBs bs vs I) (hn : vs.length ≤ 1000000) (hl : bs.flatten.length ≤ 140737488355328) (hst : St I M w) :
    Calls Try.prog 35 #[.slice A vs.length z] w (Ret I (NewB I M bs.flatten)) := by
  have HC := Lib.hid hc
  have HR := Lib.hid hr
  have hlen := hr.len
  have HS := Lib.hid (hst.nil (e := 5) (size := 1))
  clear hc hr hst
  go_enter Try.func35, Try.ntmps35
  go_upto_region 3 with fail
  go_loopw [3, 7] (fun ov iv wr => ∃ (i : Nat), i ≤ vs.length ∧ iv = .int .i64 i ∧ Hid (St I (row 5 1 ov (bs.take i).flatten.length (bvs (bs.take i).flatten) :: M) wr)) (fun _ iv _ => vs.length - (intOf iv).toNat)
  case atStart => exact ⟨0, by omega, rfl, HS⟩
  case round =>
    obtain ⟨i, hi, rfl, HSr⟩ := hrel
    clear HS
    by_cases hlt : i < vs.length
    · obtain ⟨g, o, rfl, hcell⟩ := HC.out.at (by omega)
      have y0 := hcell _ _ HSr.out i hlt
      have HB := Lib.hid (HR.out.at i (by omega) hlt)
      have hle := flatten_take_le bs i (by omega)
      have HT := Lib.hid (show (bs.take (i + 1)).flatten = (bs.take i).flatten ++ bs[i]'(by omega) by rw [List.take_succ_eq_append_getElem (by omega), List.flatten_append]; simp)
      clear hcell
      obtain ⟨A1, c1, hv1, hb1⟩ := HB.out
      rw [hv1] at y0
      have HB1 := Lib.hid (show RoB (bs[i]'(by omega)) (.slice A1 (bs[i]'(by omega)).length c1) I from ⟨A1, c1, rfl, hb1⟩)
      clear HB hv1 hb1
      go_wp2_with (at_builtin; refine wpList_appB rfl _ _ rfl I M _ _ _ _ rfl rfl HSr.out HB1.out (by omega) ?_)
      intro v3 w3 hs
      rw [← HT.out] at hs
      have hs := Lib.hid (show St _ _ _ from hs)
      clear HSr HT HB1 y0
      go_wp2
      go_roundw
      case rel => exact ⟨i + 1, by omega, by go_num, hs⟩
      case measure => simp [intOf]; omega
    · have hin : i = bs.length := by omega
      have hs := HSr.out
      rw [List.take_of_length_le (by omega)] at hs
      obtain ⟨A2, c2, rfl⟩ := own_form (show World.ownsRow _ 0 5 1 _ _ _ from hs.at 0 rfl)
      have hcap := (own_cap (show World.ownsRow _ 0 5 1 _ _ _ from hs.at 0 rfl)).2
      have HF := Lib.hid hs
      clear hs HSr
      generalize bs.flatten = l at *
      go_wp2
      go_returns
      exact Ret.mk (.refl I) HF.out ⟨rfl, A2, c2, rfl, hcap, rfl⟩
end Go.Proofs.Ytddopbbmgpnjjaa
