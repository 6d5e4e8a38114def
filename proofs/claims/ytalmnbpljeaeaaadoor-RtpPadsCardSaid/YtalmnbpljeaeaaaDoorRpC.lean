/- rostrumlaw12.awake. -/
import Derived.Test.YtalmnbpljeaeaaaDoorRpB
namespace Go.Proofs.YtalmnbpljeaeaaaDoor
open Go.RowKit
set_option linter.unusedSimpArgs false

theorem awakeC (I : Img) (M : List Res) (w : World) (hst : St I M w) : Calls Tryd.prog 4 #[] w (Ret I (fun v _ M' => v = .bool true ∧ M' = M)) := by
  have HC : Hid (Calls Tryd.prog 5 #[.agg #[.bool false, .int .i64 0, .int .u16 0, .int .u32 0, .int .u32 0, .slice none 0 0, .slice none 0 0, .slice none 0 0, .int .i64 1]] w (Ret I (fun v _ M' => ∃ B d, v = .tuple #[.slice B 13 d, .int .i64 0] ∧ M' = row 5 1 (.slice B 13 d) 13 (bvs [160, 0, 0, 0, 0, 0, 0, 0, 0, 0, 0, 0, 1]) :: M))) := Lib.hid (buildG I M w false 0 none 0 1 [] hst (Byts.nil I none) (by decide) (.inl rfl) (by decide))
  clear hst
  go_enter Tryd.func4, Tryd.ntmps4
  go_wp2_with fail
  go_at_call 5
  refine HC.out.mono ?_
  rintro e w2 ⟨_, J, _, rfl, hl, hs, B, d, rfl, rfl⟩
  obtain ⟨g, rfl, _, hg, hcell, _⟩ := St.rowAt hs (by decide)
  have z0 : w2.cell? ⟨g, 0, none⟩ = some (.int .u8 160) := hcell 0 (by decide)
  have z12 : w2.cell? ⟨g, 12, none⟩ = some (.int .u8 1) := hcell 12 (by decide)
  have HS := Lib.hid hs
  have HL := Lib.hid hl
  clear hs hcell hl HC
  go_wp2
  go_returns
  exact Ret.mk HL.out HS.out.drop ⟨rfl, rfl⟩
end Go.Proofs.YtalmnbpljeaeaaaDoor
