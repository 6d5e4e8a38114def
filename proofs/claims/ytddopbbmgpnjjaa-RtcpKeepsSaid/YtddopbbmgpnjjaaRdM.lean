/- rostrumlaw13.awake: the package's own example. -/
import Derived.Test.YtddopbbmgpnjjaaRdK
import Derived.Test.YtddopbbmgpnjjaaRcZ
namespace Go.Proofs.Ytddopbbmgpnjjaa
open Go.RowKit
set_option linter.unusedSimpArgs false

def Yes (I : Img) (M : List Res) : Ending → World → Prop := Ret I (fun v _ M' => v = .bool true ∧ M' = M)
def aPk : Pk := ⟨2, 5, 0, 0, 0, 0, 0, [], ⟨#[]⟩, [], [], 0, 0, 0, [], []⟩
def aVs : Vs := ⟨nilV, nilV, nilV, nilV, nilV⟩
theorem aRaw : PkRaw aPk := by
  refine ⟨?_, ?_, ?_, ?_, ?_, ?_, ?_, ?_, ?_, ?_, ?_, ?_, ?_, ?_, ?_, ?_, ?_, ?_, ?_, ?_, ?_, ?_, ?_, ?_⟩ <;> first | (simp [aPk, maxLen]; done) | exact Nat.zero_le _
theorem aIn (I : Img) : PkIn I aPk aVs := ⟨SlC.nil I _, SlC.nil I _, SlC.nil I _, SlC.nil I _, SlC.nil I _⟩
theorem aGood : Good aPk := ⟨.inl ⟨.inr rfl, rfl, by simp [aPk]⟩, rfl⟩
theorem aBytes : [aPk].flatMap packB = [128, 201, 0, 1, 0, 0, 0, 5] := by decide +kernel
theorem aBuilt : Built [aPk] := ⟨⟨by simp, by simp⟩, ⟨aPk, [], rfl, .inr rfl⟩, fun p hp => by rw [List.mem_singleton.1 hp]; exact aGood, by rw [aBytes]; decide⟩
set_option maxRecDepth 8000 in
set_option maxHeartbeats 8000000 in
theorem awakeC (I : Img) (M : List Res) (w : World) (hst : St I M w) : Calls Try.prog 9 #[] w (fun e w' => ∃ J, e = .returned (.bool true) ∧ I.le J ∧ St J M w') := by
  obtain ⟨J, hle, hs, hobj⟩ := (hst.alloc 51 (pkC aPk aVs)).freezeBlk
  have hc : Cells J (some ⟨w.heap.size, 0, none⟩) (flat pvC [(aPk, aVs)]) := by
    have := Cells.ofBlk hobj
    simpa [flat] using this
  have HB := Lib.hid (buildC J M _ (some ⟨w.heap.size, 0, none⟩) 1 [(aPk, aVs)] ⟨hc, fun x hx => by rw [List.mem_singleton.1 hx]; exact ⟨aIn J, aRaw⟩, by simp⟩ hs)
  have HLE := Lib.hid hle
  clear hst hle hs hobj hc
  go_enter Try.func9, Try.ntmps9
  go_wp2_with fail
  go_at_call 11
  refine HB.out.mono ?_
  clear HB
  rintro e w2 ⟨_, J2, _, rfl, hle2, hs2, hbt⟩
  rcases hbt with ⟨_, u, rfl, rfl⟩ | ⟨hn, _⟩
  case inr => exact absurd aBuilt hn
  have e1 : ((pks [(aPk, aVs)]).flatMap packB) = [128, 201, 0, 1, 0, 0, 0, 5] := aBytes
  rw [e1] at hs2
  obtain ⟨A, c, rfl⟩ := own_form (show World.ownsRow _ 0 5 1 u _ _ from hs2.at 0 rfl)
  obtain ⟨J3, hle3, hs3, hb3⟩ := hs2.freezeRow
  have hb4 : Byts J3 A [128, 201, 0, 1, 0, 0, 0, 5] := hb3
  obtain ⟨g, o, rfl, hcell⟩ := Byts.at hb4 (by decide)
  have h0 : w2.cell? ⟨g, o, none⟩ = some (.int .u8 128) := hcell _ _ hs3 0 (by decide)
  have h1 : w2.cell? ⟨g, o + 1, none⟩ = some (.int .u8 201) := hcell _ _ hs3 1 (by decide)
  have h7 : w2.cell? ⟨g, o + 7, none⟩ = some (.int .u8 5) := hcell _ _ hs3 7 (by decide)
  have HF := Lib.hid (show ∃ J, (Ending.returned (.bool true)) = .returned (.bool true) ∧ I.le J ∧ St J M w2 from ⟨J3, rfl, (HLE.out.trans hle2).trans hle3, hs3⟩)
  clear hs2 hs3 hb3 hb4 hcell
  go_wp2
  go_returns
  obtain ⟨J9, _, h8, h9⟩ := HF.out
  exact ⟨J9, rfl, h8, h9⟩
end Go.Proofs.Ytddopbbmgpnjjaa
