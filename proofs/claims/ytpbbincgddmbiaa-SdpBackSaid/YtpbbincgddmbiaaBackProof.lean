/- SdpBack holds at every input. No condition. -/
import Derived.Test.YtpbbincgddmbiaaSdU
import Derived.Test.YtpbbincgddmbiaaOps
import Derived.Test.YtpbbincgddmbiaaLaw
import Derived.Test.YtpbbincgddmbiaaOpen
import Derived.HandedShaped
namespace Go.Proofs.Ytpbbincgddmbiaa.sdpBack
open Go.ChangeShapes Go.WideShapes Go.ChangeAt Go.RowKit Go.Joins
open Go.ChangeMaps (open_string shut_string)

theorem own : ownKnob Try.prog.godebug = none := by kernel_rfl
theorem laidOut : laidOutB Try.prog = true := by kernel_rfl

set_option maxRecDepth 100000 in
set_option linter.unusedVariables false in
theorem lifted (os : Os) (started : os.Started) (H : Type) (enc : TypeId × Value → H) :
    ReturnsInHanded {} Try.checked os 7 .any (Rows.sdpBackSpec.pre6 enc Try.prog Try.f7 Rows.sdpBackRow.domain false) (Rows.sdpBackSpec.post enc Try.prog Try.f7 false true false false) := by
  refine returnsInHanded_of_change_shaped (C := Try.checked) own started (by kernel_rfl) Try.func7
    (ChangeSpec.witness6 (enc := enc) (C := Try.checked) false ⟨#[], #[.agg #[.string ⟨#[]⟩, .string ⟨#[]⟩, .string ⟨#[]⟩, .slice none 0 0, .slice none 0 0], .string ⟨#[]⟩], []⟩ 8 (by kernel_rfl) (by kernel_rfl) (by kernel_rfl) (by kernel_rfl)) ?_
  intro W base args ds gs before hval0 hW _ hsz0 hsh _
  have hval : ∀ (j : Nat) t v, Try.f7.params[j]? = some t → args[j]? = some v → Value.okWide Try.prog W .any base t v := hval0
  have hsz : (DataW.weightsEach Try.prog (Try.f7.params.toList ++ Rows.sdpBackSpec.plain.varTypes Try.prog) (ds ++ gs)).all (· ≤ reachBytes) = true := hsz0
  have hW' := hW
  obtain ⟨p, q, hA0, hV, rfl, _, _⟩ := hW
  have hA : DataW.TrodAll enc Try.prog W 0 (fun _ => true) true Try.f7.params.toList args.toList ds p := hA0
  rw [Try.params7] at hA hval hsz
  obtain ⟨v0, vs0, d0, ds0, p0, q0, hargs, rfl, rfl, h0, r0⟩ := trodAll_cons hA
  obtain ⟨v1, vs1, d1, ds1, p1, q1, rfl, rfl, rfl, h1, r1⟩ := trodAll_cons r0
  obtain ⟨rfl, rfl, rfl⟩ := trodAll_nil r1
  obtain rfl : args = #[v0, v1] := by cases args; simp_all
  obtain ⟨rfl, rfl⟩ := trodVars_none hV
  have hfit0 : Fits Try.prog 26 d0 := (fits_cons hsz).1
  have hfit1 : Fits Try.prog 9 d1 := (fits_cons (fits_cons hsz).2).1
  obtain ⟨cs0, rfl, _⟩ := okWide_struct Try.underlying26 (hval 0 26 v0 rfl rfl)
  obtain ⟨fuel0, hf0⟩ := h0
  obtain ⟨y, vA, vP, pv, e0, hses, hszd, hal, hpl, hpe⟩ := open_ses hf0 hfit0
  have e0' : cs0 = head5 y vA vP := by
    have e1 : cs0.toList = (head5 y vA vP).toList := by simpa [Value.cells] using e0
    exact Array.ext' e1
  subst e0'
  obtain ⟨s1, rfl, rfl, rfl, hs1⟩ := open_string Try.underlying9 (hval 1 9 v1 rfl rfl) h1
  have hz1 : s1.size ≤ maxLen := hs1
  have hm0 : ∃ m, W.cell? ⟨0, 0, none⟩ = some (.int .i64 m) := Try.laysM145.s1_3 W hsh
  obtain ⟨m, hm⟩ := hm0
  have hmI : (Img.of W).cell? ⟨0, 0, none⟩ = some (.int .i64 m) := (Img.of_cell W _).trans hm
  refine (law7 (Img.of W) [] W m y vA vP pv s1 (St.of W) hmI hses hszd hal hpl hpe hz1).mono fun e W' ⟨v, J, M', he, hle, hs, hv, _⟩ => ?_
  subst hv
  have hb := St.end_ rfl hs hle
  subst he
  exact ⟨_, rfl, law_post laidOut (by rw [Try.params7]; decide +kernel) rfl Try.underlying4 rfl rfl rfl rfl hW' hb⟩

theorem over : Rows.sdpBackRow.holds Try.pinned (OpenSpec.ofChange Rows.sdpBackSpec) :=
  OpenClaim.holds_of_wide 7 Try.f7 rfl rfl rfl rfl rfl rfl rfl ⟨rfl, rfl, rfl, rfl, rfl⟩ rfl rfl rfl rfl rfl (by kernel_rfl) Try.func7 (by kernel_rfl)
    (of_decide_eq_true (by kernel_rfl)) (by unfold Func.isWrapper; first | (rw [if_pos (by decide +kernel)]; kernel_rfl) | (rw [if_neg (by decide +kernel)]; exact ⟨rfl, rfl⟩))
    (fun os started H enc _ => lifted os started H enc)

theorem proved : Rows.SdpBackSaid :=
  over
end Go.Proofs.Ytpbbincgddmbiaa.sdpBack
