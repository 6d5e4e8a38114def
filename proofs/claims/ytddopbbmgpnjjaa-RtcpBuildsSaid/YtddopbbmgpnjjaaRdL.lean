/- rostrumlaw13.awake; RtcpBuilds. -/
import Derived.Test.YtddopbbmgpnjjaaRdI
import Derived.Test.YtddopbbmgpnjjaaRdK
namespace Go.Proofs.Ytddopbbmgpnjjaa
open Go.RowKit
set_option linter.unusedSimpArgs false

def Yes (I : Img) (M : List Res) : Ending → World → Prop := Ret I (fun v _ M' => v = .bool true ∧ M' = M)
def aPk : Pk := ⟨2, 5, 0, 0, 0, 0, 0, [], ⟨#[]⟩, [], [], 0, 0, 0, [], []⟩
def aVs : Vs := ⟨nilV, nilV, nilV, nilV, nilV⟩
theorem aRaw : PkRaw aPk := by
  refine ⟨?_, ?_, ?_, ?_, ?_, ?_, ?_, ?_, ?_, ?_, ?_, ?_, ?_, ?_, ?_, ?_, ?_, ?_, ?_, ?_, ?_, ?_, ?_, ?_⟩ <;> first | (simp [aPk, maxLen]; done) | exact Nat.zero_le _
theorem aIn (I : Img) : PkIn I aPk aVs := ⟨SlC.nil I _, SlC.nil I _, SlC.nil I _, SlC.nil I _, SlC.nil I _⟩
theorem aGood : Good aPk := ⟨.inl ⟨.inr rfl, rfl, by simp [aPk]⟩, rfl⟩
theorem aBytes : [aPk].flatMap packB = [128, 201, 0, 1, 0, 0, 0, 5] := by decide +kernel
theorem aBuilt : Built [aPk] := ⟨⟨by simp, by simp⟩, ⟨aPk, [], rfl, .inr rfl⟩, fun p hp => by rw [List.mem_singleton.1 hp]; exact aGood, by rw [aBytes]; decide⟩
set_option maxRecDepth 8000 in
set_option maxHeartbeats 8000000 in
theorem awakeC (I : Img) (M : List Res) (w : World) (hst : St I M w) : Calls Try.prog 9 #[] w (fun e w' => ∃ J, e = .returned (.bool true) ∧ I.le J ∧ St J M w') := by
  obtain ⟨J, hle, hs, hobj⟩ := (hst.alloc 51 (pkC aPk aVs)).freezeBlk
  have hc : Cells J (some ⟨w.heap.size, 0, none⟩) (flat pvC [(aPk, aVs)]) := by
    have := Cells.ofBlk hobj
    simpa [flat] using this
  have HB := Lib.hid (buildC J M _ (some ⟨w.heap.size, 0, none⟩) 1 [(aPk, aVs)] ⟨hc, fun x hx => by rw [List.mem_singleton.1 hx]; exact ⟨aIn J, aRaw⟩, by simp⟩ hs)
  have HLE := Lib.hid hle
  clear hst hle hs hobj hc
  go_enter Try.func9, Try.ntmps9
  go_wp2_with fail
  go_at_call 11
  refine HB.out.mono ?_
  clear HB
  rintro e w2 ⟨_, J2, _, rfl, hle2, hs2, hbt⟩
  rcases hbt with ⟨_, u, rfl, rfl⟩ | ⟨hn, _⟩
  case inr => exact absurd aBuilt hn
  have e1 : ((pks [(aPk, aVs)]).flatMap packB) = [128, 201, 0, 1, 0, 0, 0, 5] := aBytes
  rw [e1] at hs2
  obtain ⟨A, c, rfl⟩ := own_form (show World.ownsRow _ 0 5 1 u _ _ from hs2.at 0 rfl)
  obtain ⟨J3, hle3, hs3, hb3⟩ := hs2.freezeRow
  have hb4 : Byts J3 A [128, 201, 0, 1, 0, 0, 0, 5] := hb3
  obtain ⟨g, o, rfl, hcell⟩ := Byts.at hb4 (by decide)
  have h0 : w2.cell? ⟨g, o, none⟩ = some (.int .u8 128) := hcell _ _ hs3 0 (by decide)
  have h1 : w2.cell? ⟨g, o + 1, none⟩ = some (.int .u8 201) := hcell _ _ hs3 1 (by decide)
  have h7 : w2.cell? ⟨g, o + 7, none⟩ = some (.int .u8 5) := hcell _ _ hs3 7 (by decide)
  have HF := Lib.hid (show ∃ J, (Ending.returned (.bool true)) = .returned (.bool true) ∧ I.le J ∧ St J M w2 from ⟨J3, rfl, (HLE.out.trans hle2).trans hle3, hs3⟩)
  clear hs2 hs3 hb3 hb4 hcell
  go_wp2
  go_returns
  obtain ⟨J9, _, h8, h9⟩ := HF.out
  exact ⟨J9, rfl, h8, h9⟩
set_option maxRecDepth 8000 in
set_option maxHeartbeats 8000000 in
theorem law3 (I : Img) (M : List Res) (w : World) (A : Option Addr) (z : Nat) (ps : List (Pk × Vs)) (hp : Pks I A ps) (hlen : ps.length * 192 ≤ 140737488351232) (hst : St I M w) : Calls Try.prog 3 #[.slice A ps.length z] w (Yes I M) := by
  have HP := Lib.hid hp
  have HA := Lib.hid (awakeC I M w hst)
  clear hp hst
  go_enter Try.func3, Try.ntmps3
  go_wp2_with fail
  go_at_call 9
  refine HA.out.mono ?_
  clear HA
  rintro e w1 ⟨J1, rfl, hle1, hs1⟩
  have HR := Lib.hid (refBuildC J1 M w1 A z ps (HP.out.mono hle1) hs1)
  have HLE := Lib.hid hle1
  clear hle1 hs1
  go_wp2_with fail
  go_at_call 10
  refine HR.out.mono ?_
  clear HR
  rintro e w2 ⟨_, J2, _, rfl, hle2, hs2, hbt⟩
  rcases hbt with ⟨hb, u, rfl, rfl⟩ | ⟨hb, rfl, hM⟩
  · skip
    obtain ⟨A1, c1, rfl⟩ := own_form (show World.ownsRow _ 0 5 1 u _ _ from hs2.at 0 rfl)
    obtain ⟨bl, hbe⟩ : ∃ z, z = (pks ps).flatMap packB := ⟨_, rfl⟩
    rw [← hbe] at hs2 ⊢
    obtain ⟨J3, hle3, hs3, hb3⟩ := hs2.freezeRow
    have HB3 := Lib.hid (show Byts J3 A1 bl from hb3)
    have HBE := Lib.hid hbe
    have HLE3 := Lib.hid ((HLE.out.trans hle2).trans hle3)
    clear hs2 hb3 hbe
    have HT := Lib.hid (theirsC J3 M w2 A z ps (HP.out.mono HLE3.out) hlen hs3)
    clear hs3 hle2 hle3
    go_wp2_with fail
    go_at_call 12
    refine HT.out.mono ?_
    clear HT
    rintro e w3 ⟨J4, B, c, qs, rfl, hle4, hs4, hp4, hq4⟩
    have hql : qs.length = ps.length := by have := congrArg List.length hq4; simpa [pks] using this
    have hb11 := buildC J4 M w3 B c qs hp4 hs4
    rw [hq4, hql] at hb11
    have HB := Lib.hid hb11
    have HLE4 := Lib.hid hle4
    clear hb11 hs4 hp4 hq4 hle4
    go_wp2_with fail
    go_at_call 11
    refine HB.out.mono ?_
    clear HB
    rintro e w4 ⟨_, J5, _, rfl, hle5, hs5, hbt⟩
    rcases hbt with ⟨_, u, rfl, rfl⟩ | ⟨hn, _⟩
    case inr => exact absurd hb hn
    obtain ⟨A2, c2, rfl⟩ := own_form (show World.ownsRow _ 0 5 1 u _ _ from hs5.at 0 rfl)
    rw [← HBE.out] at hs5 ⊢
    obtain ⟨J6, hle6, hs6, hb6⟩ := hs5.freezeRow
    have hb6 : Byts J6 A2 bl := hb6
    have hb7 := ((HB3.out.mono HLE4.out).mono hle5).mono hle6
    have hv1 := hb6.conv (P := Try.prog) (t := 24) (e := 5) (s := 9) hs6 Try.underlying24 Try.underlying5 Try.underlying9 c2
    have hv2 := hb7.conv (P := Try.prog) (t := 24) (e := 5) (s := 9) hs6 Try.underlying24 Try.underlying5 Try.underlying9 c1
    have HF := Lib.hid (show Yes I M (.returned (.bool true)) w4 from Ret.mk (((HLE3.out.trans HLE4.out).trans hle5).trans hle6) hs6 ⟨rfl, rfl⟩)
    clear hs5 hs6 hb6 hb7 hb
    go_wp2
    go_returns
    exact HF.out
  · skip
    obtain ⟨J3, hJ3⟩ : ∃ J, J = J2 := ⟨_, rfl⟩
    rw [hM] at hs2
    clear hM
    have hs3 := hs2
    have hle3 := Img.le.refl J2
    rw [← hJ3] at hs3
    have HLE3 := Lib.hid (show I.le J3 by rw [hJ3]; exact HLE.out.trans hle2)
    clear hs2 hJ3
    have HT := Lib.hid (theirsC J3 M w2 A z ps (HP.out.mono HLE3.out) hlen hs3)
    clear hs3 hle2 hle3
    go_wp2_with fail
    go_at_call 12
    refine HT.out.mono ?_
    clear HT
    rintro e w3 ⟨J4, B, c, qs, rfl, hle4, hs4, hp4, hq4⟩
    have hql : qs.length = ps.length := by have := congrArg List.length hq4; simpa [pks] using this
    have hb11 := buildC J4 M w3 B c qs hp4 hs4
    rw [hq4, hql] at hb11
    have HB := Lib.hid hb11
    have HLE4 := Lib.hid hle4
    clear hb11 hs4 hp4 hq4 hle4
    go_wp2_with fail
    go_at_call 11
    refine HB.out.mono ?_
    clear HB
    rintro e w4 ⟨_, J5, _, rfl, hle5, hs5, hbt⟩
    rcases hbt with ⟨hy, _⟩ | ⟨_, rfl, hM⟩
    case inl => exact absurd hy hb
    rw [hM] at hs5
    clear hM
    have hv1 : (convert 24 9 (.slice none 0 0)).run Try.prog w4 = .ok (.string ⟨#[]⟩) w4 := (Byts.nil J5 none).conv (P := Try.prog) (t := 24) (e := 5) (s := 9) hs5 Try.underlying24 Try.underlying5 Try.underlying9 0
    have HF := Lib.hid (show Yes I M (.returned (.bool true)) w4 from Ret.mk ((HLE3.out.trans HLE4.out).trans hle5) hs5 ⟨rfl, rfl⟩)
    clear hs5 hb
    go_wp2
    go_returns
    exact HF.out
end Go.Proofs.Ytddopbbmgpnjjaa
