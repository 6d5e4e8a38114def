/- SdpPrints holds at every input whose values and letters are together at most 1048576. Condition: that bound. -/
import Derived.Test.YtpbbincgddmbiaaSdW
import Derived.Test.YtpbbincgddmbiaaOpsB
import Derived.Test.YtpbbincgddmbiaaLaw
import Derived.Test.YtpbbincgddmbiaaOpen
import Derived.HandedShaped
namespace Go.Proofs.Ytpbbincgddmbiaa.sdpPrints
open Go.ChangeShapes Go.WideShapes Go.ChangeAt Go.RowKit Go.Joins
open Go.ChangeMaps (open_string shut_string)

theorem own : ownKnob Try.prog.godebug = none := by kernel_rfl
theorem laidOut : laidOutB Try.prog = true := by kernel_rfl

set_option maxRecDepth 100000 in
set_option linter.unusedVariables false in
theorem lifted (os : Os) (started : os.Started) (H : Type) (enc : TypeId × Value → H) (F : Stop.Interp) :
    ReturnsInHanded {} Try.checked os 6 .any ((Rows.OpenSpec.upto Rows.sdpPrintsSpec).pre6 enc Try.prog Try.f6 Rows.sdpPrintsUptoRow.domain false) (((Rows.OpenSpec.upto Rows.sdpPrintsSpec).at F).post enc Try.prog Try.f6 false true false false) := by
  refine cond_shaped (C := Try.checked) (s := Rows.OpenSpec.upto Rows.sdpPrintsSpec) (k := Rows.uptoSmall) rfl own started (by kernel_rfl) Try.func6
    (OpenSpec.witness (enc := enc) (C := Try.checked) (s := Rows.OpenSpec.upto Rows.sdpPrintsSpec) (k := Rows.uptoSmall) rfl false ⟨#[], #[.agg #[.string ⟨#[]⟩, .string ⟨#[]⟩, .string ⟨#[]⟩, .slice none 0 0, .slice none 0 0]], []⟩ 8 (by kernel_rfl) (by kernel_rfl) (by kernel_rfl)
      (x := ([.agg [.lit (.string []), .lit (.string []), .lit (.string []), .nil, .nil]], [], [])) (by kernel_rfl) rfl (by kernel_rfl)) ?_
  intro W base args ds gs before hval0 hW hk hsz0 hsh
  have hval : ∀ (j : Nat) t v, Try.f6.params[j]? = some t → args[j]? = some v → Value.okWide Try.prog W .any base t v := hval0
  have hsz : (DataW.weightsEach Try.prog (Try.f6.params.toList ++ Rows.sdpPrintsSpec.plain.varTypes Try.prog) (ds ++ gs)).all (· ≤ reachBytes) = true := hsz0
  have hW' := hW
  obtain ⟨p, q, hA0, hV, rfl, _, _⟩ := hW
  have hA : DataW.TrodAll enc Try.prog W 0 (fun _ => true) true Try.f6.params.toList args.toList ds p := hA0
  rw [Try.params6] at hA hval hsz
  obtain ⟨v0, vs0, d0, ds0, p0, q0, hargs, rfl, rfl, h0, r0⟩ := trodAll_cons hA
  obtain ⟨rfl, rfl, rfl⟩ := trodAll_nil r0
  obtain rfl : args = #[v0] := by cases args; simp_all
  obtain ⟨rfl, rfl⟩ := trodVars_none hV
  have hfit0 : Fits Try.prog 26 d0 := (fits_cons hsz).1
  obtain ⟨cs0, rfl, _⟩ := okWide_struct Try.underlying26 (hval 0 26 v0 rfl rfl)
  obtain ⟨fuel0, hf0⟩ := h0
  obtain ⟨y, vA, vP, pv, e0, hses, hszd, hal, hpl, hpe, hbk⟩ := open_sesB hf0 hfit0
  have e0' : cs0 = head5 y vA vP := by
    have e1 : cs0.toList = (head5 y vA vP).toList := by simpa [Value.cells] using e0
    exact Array.ext' e1
  subst e0'
  have hbd := bulk_of hk
  simp only [List.append_nil, Rows.uptoBulkAll] at hbd
  obtain ⟨hpb, hcb⟩ := size_bounds hses.same (Nat.le_trans hbk (by omega))
  have hm0 : ∃ m, W.cell? ⟨0, 0, none⟩ = some (.int .i64 m) := Try.laysM145.s1_3 W hsh
  obtain ⟨m, hm⟩ := hm0
  have hmI : (Img.of W).cell? ⟨0, 0, none⟩ = some (.int .i64 m) := (Img.of_cell W _).trans hm
  refine (law6 (Img.of W) [] W m y vA vP pv (St.of W) hmI hses hszd hal hpl hpe hpb hcb).mono fun e W' ⟨v, J, M', he, hle, hs, hv, _⟩ => ?_
  subst hv
  have hb := St.end_ rfl hs hle
  subst he
  exact ⟨_, rfl, law_post laidOut (by rw [Try.params6]; decide +kernel) rfl Try.underlying4 rfl rfl rfl rfl hW' hb⟩

theorem over : Rows.sdpPrintsUptoRow.holds Try.pinned (Rows.OpenSpec.upto Rows.sdpPrintsSpec) :=
  OpenClaim.holds_of_cond 6 Try.f6 rfl rfl rfl rfl rfl rfl rfl ⟨rfl, rfl, rfl, rfl, rfl⟩ rfl rfl rfl rfl rfl (by kernel_rfl) Try.func6 (by kernel_rfl)
    (of_decide_eq_true (by kernel_rfl)) (by unfold Func.isWrapper; first | (rw [if_pos (by decide +kernel)]; kernel_rfl) | (rw [if_neg (by decide +kernel)]; exact ⟨rfl, rfl⟩))
    (fun os started H enc _ F => lifted os started H enc F)

theorem proved : Rows.SdpPrintsUptoSaid :=
  over
end Go.Proofs.Ytpbbincgddmbiaa.sdpPrints
