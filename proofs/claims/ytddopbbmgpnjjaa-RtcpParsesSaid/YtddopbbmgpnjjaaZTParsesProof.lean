/- RtcpParses holds at every input. No condition. -/
import Derived.Test.YtddopbbmgpnjjaaZT41
namespace Go.Proofs.Ytddopbbmgpnjjaa.rtcpParses
open Go.ChangeShapes Go.WideShapes Go.ChangeAt Go.RowKit Go.Joins
open Go.ChangeMaps (open_string shut_string)
theorem own : ownKnob Try.prog.godebug = none := by kernel_rfl
theorem laidOut : laidOutB Try.prog = true := by kernel_rfl
set_option maxRecDepth 100000 in
set_option linter.unusedVariables false in
theorem lifted (os : Os) (started : os.Started) (H : Type) (enc : TypeId × Value -> H) :
  ReturnsInHanded {} Try.checked os 4 .any (Rows.rtcpParsesSpec.pre6 enc Try.prog Try.f4 Rows.rtcpParsesRow.domain false) (Rows.rtcpParsesSpec.post enc Try.prog Try.f4 false true false false) := by
 refine returnsInHanded_of_change_sized (C := Try.checked) own started (by kernel_rfl) Try.func4
  (ChangeSpec.witness6 (enc := enc) (C := Try.checked) false ⟨#[], #[.slice none 0 0], []⟩ 8 (by kernel_rfl) (by kernel_rfl) (by kernel_rfl) (by kernel_rfl)) ?_
 intro W base args ds gs before hval0 hW _ hsz0 _
 have hval : ∀ (j : Nat) t v, Try.f4.params[j]? = some t -> args[j]? = some v -> Value.okWide Try.prog W .any base t v := hval0
 have hsz : (DataW.weightsEach Try.prog (Try.f4.params.toList ++ Rows.rtcpParsesSpec.plain.varTypes Try.prog) (ds ++ gs)).all (· <= reachBytes) = true := hsz0
 have hW' := hW
 obtain ⟨p, q, hA0, hV, rfl, _, _⟩ := hW
 have hA : DataW.TrodAll enc Try.prog W 0 (fun _ => true) true Try.f4.params.toList args.toList ds p := hA0
 rw [Try.params4] at hA hval hsz
 obtain ⟨v0, vs0, d0, ds0, p0, q0, hargs, rfl, rfl, h0, r0⟩ := trodAll_cons hA
 obtain ⟨rfl, rfl, rfl⟩ := trodAll_nil r0
 obtain rfl : args = #[v0] := by cases args; simp_all
 obtain ⟨rfl, rfl⟩ := trodVars_none hV
 have hfit0 : Fits Try.prog 24 d0 := (ZT hsz).1
 obtain ⟨a0', len0, cap0, rfl⟩ := okWide_slice Try.underlying24 (hval 0 24 v0 rfl rfl)
 obtain ⟨fuel0, hf0⟩ := h0
 obtain ⟨A0, c0, b0, e0, hB0, hC0, hl0⟩ := open_byts Try.underlying24 Try.underlying5 (by kernel_rfl) (by kernel_rfl) hf0
 have e0' : Value.slice a0' len0 cap0 = .slice A0 b0.length c0 := by simpa [Value.cells] using e0
 rw [e0'] at hW' ⊢
 refine (law4 (Zh.of W) [] W A0 c0 b0 hB0 hC0 (hl0 hfit0) (St.of W)).mono fun e W' ⟨v, J, M', he, Z5, hs, hv, _⟩ => ?_
 subst hv
 have hb := St.end_ rfl hs Z5
 subst he
 exact ⟨_, rfl, law_post laidOut (by rw [Try.params4]; decide +kernel) rfl Try.underlying4 rfl rfl rfl rfl hW' hb⟩
theorem over : Rows.rtcpParsesRow.holds Try.pinned (OpenSpec.ofChange Rows.rtcpParsesSpec) :=
 OpenClaim.holds_of_wide 4 Try.f4 rfl rfl rfl rfl rfl rfl rfl ⟨rfl, rfl, rfl, rfl, rfl⟩ rfl rfl rfl rfl rfl (by kernel_rfl) Try.func4 (by kernel_rfl)
  (of_decide_eq_true (by kernel_rfl)) (by unfold Func.isWrapper; first | (rw [if_pos (by decide +kernel)]; kernel_rfl) | (rw [if_neg (by decide +kernel)]; exact ⟨rfl, rfl⟩))
  (fun os started H enc _ => lifted os started H enc)
theorem proved : Rows.RtcpParsesSaid :=
 over
end Go.Proofs.Ytddopbbmgpnjjaa.rtcpParses
