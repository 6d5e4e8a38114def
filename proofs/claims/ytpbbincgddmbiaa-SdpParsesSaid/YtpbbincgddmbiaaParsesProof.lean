/- SdpParses holds at every input. No condition. -/
import Derived.Test.YtpbbincgddmbiaaSdN
import Derived.Test.YtpbbincgddmbiaaLaw
import Derived.Test.YtpbbincgddmbiaaOpen
import Derived.HandedShaped
namespace Go.Proofs.Ytpbbincgddmbiaa.sdpParses
open Go.ChangeShapes Go.WideShapes Go.ChangeAt Go.RowKit Go.Joins
open Go.ChangeMaps (open_string shut_string)

theorem own : ownKnob Try.prog.godebug = none := by kernel_rfl
theorem laidOut : laidOutB Try.prog = true := by kernel_rfl

set_option maxRecDepth 100000 in
set_option linter.unusedVariables false in
theorem lifted (os : Os) (started : os.Started) (H : Type) (enc : TypeId × Value → H) :
    ReturnsInHanded {} Try.checked os 3 .any (Rows.sdpParsesSpec.pre6 enc Try.prog Try.f3 Rows.sdpParsesRow.domain false) (Rows.sdpParsesSpec.post enc Try.prog Try.f3 false true false false) := by
  refine returnsInHanded_of_change_shaped (C := Try.checked) own started (by kernel_rfl) Try.func3
    (ChangeSpec.witness6 (enc := enc) (C := Try.checked) false ⟨#[], #[.string ⟨#[]⟩], []⟩ 8 (by kernel_rfl) (by kernel_rfl) (by kernel_rfl) (by kernel_rfl)) ?_
  intro W base args ds gs before hval0 hW _ hsz0 hsh _
  have hval : ∀ (j : Nat) t v, Try.f3.params[j]? = some t → args[j]? = some v → Value.okWide Try.prog W .any base t v := hval0
  have hsz : (DataW.weightsEach Try.prog (Try.f3.params.toList ++ Rows.sdpParsesSpec.plain.varTypes Try.prog) (ds ++ gs)).all (· ≤ reachBytes) = true := hsz0
  have hW' := hW
  obtain ⟨p, q, hA0, hV, rfl, _, _⟩ := hW
  have hA : DataW.TrodAll enc Try.prog W 0 (fun _ => true) true Try.f3.params.toList args.toList ds p := hA0
  rw [Try.params3] at hA hval hsz
  obtain ⟨v0, vs0, d0, ds0, p0, q0, hargs, rfl, rfl, h0, r0⟩ := trodAll_cons hA
  obtain ⟨rfl, rfl, rfl⟩ := trodAll_nil r0
  obtain rfl : args = #[v0] := by cases args; simp_all
  obtain ⟨rfl, rfl⟩ := trodVars_none hV
  have hfit0 : Fits Try.prog 9 d0 := (fits_cons hsz).1
  obtain ⟨s0, rfl, rfl, rfl, hs0⟩ := open_string Try.underlying9 (hval 0 9 v0 rfl rfl) h0
  have hz0 : s0.size ≤ maxLen := hs0
  have hm0 : ∃ m, W.cell? ⟨0, 0, none⟩ = some (.int .i64 m) := Try.laysM145.s1_3 W hsh
  obtain ⟨m, hm⟩ := hm0
  have hmI : (Img.of W).cell? ⟨0, 0, none⟩ = some (.int .i64 m) := (Img.of_cell W _).trans hm
  refine (law3 (Img.of W) [] W m s0 (St.of W) hmI hz0).mono fun e W' ⟨v, J, M', he, hle, hs, hv, _⟩ => ?_
  subst hv
  have hb := St.end_ rfl hs hle
  subst he
  exact ⟨_, rfl, law_post laidOut (by rw [Try.params3]; decide +kernel) rfl Try.underlying4 rfl rfl rfl rfl hW' hb⟩

theorem over : Rows.sdpParsesRow.holds Try.pinned (OpenSpec.ofChange Rows.sdpParsesSpec) :=
  OpenClaim.holds_of_wide 3 Try.f3 rfl rfl rfl rfl rfl rfl rfl ⟨rfl, rfl, rfl, rfl, rfl⟩ rfl rfl rfl rfl rfl (by kernel_rfl) Try.func3 (by kernel_rfl)
    (of_decide_eq_true (by kernel_rfl)) (by unfold Func.isWrapper; first | (rw [if_pos (by decide +kernel)]; kernel_rfl) | (rw [if_neg (by decide +kernel)]; exact ⟨rfl, rfl⟩))
    (fun os started H enc _ => lifted os started H enc)

theorem proved : Rows.SdpParsesSaid :=
  over
end Go.Proofs.Ytpbbincgddmbiaa.sdpParses
