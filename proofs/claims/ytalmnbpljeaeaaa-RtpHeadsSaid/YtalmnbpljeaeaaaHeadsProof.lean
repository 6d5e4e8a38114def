/- RtpHeads answers true for every input, and leaves its arguments as they were. No condition. -/
import Derived.Test.YtalmnbpljeaeaaaOps
namespace Go.Proofs.Ytalmnbpljeaeaaa.rtpHeads
open Go.ChangeShapes Go.WideShapes Go.ChangeAt Go.RowKit Go.Joins
open Go.ChangeMaps (open_string shut_string)

theorem own : ownKnob Try.prog.godebug = none := by kernel_rfl
theorem laidOut : laidOutB Try.prog = true := by kernel_rfl

set_option maxRecDepth 100000 in
set_option linter.unusedVariables false in
theorem lifted (os : Os) (started : os.Started) (H : Type) (enc : TypeId × Value → H) :
    ReturnsInHanded {} Try.checked os 3 .any (Rows.rtpHeadsSpec.pre6 enc Try.prog Try.f3 Rows.rtpHeadsRow.domain false) (Rows.rtpHeadsSpec.post enc Try.prog Try.f3 false true false false) := by
  refine returnsInHanded_of_change_sized (C := Try.checked) own started (by kernel_rfl) Try.func3
    (ChangeSpec.witness6 (enc := enc) (C := Try.checked) false ⟨#[], #[.slice none 0 0, .agg #[.bool false, .int .i64 0, .int .u16 0, .int .u32 0, .int .u32 0, .slice none 0 0, .slice none 0 0, .slice none 0 0, .int .i64 0], .int .i64 0], []⟩ 8 (by kernel_rfl) (by kernel_rfl) (by kernel_rfl) (by kernel_rfl)) ?_
  intro W base args ds gs before hval0 hW _ hsz0 _
  have hval : ∀ (j : Nat) t v, Try.f3.params[j]? = some t → args[j]? = some v → Value.okWide Try.prog W .any base t v := hval0
  have hsz : (DataW.weightsEach Try.prog (Try.f3.params.toList ++ Rows.rtpHeadsSpec.plain.varTypes Try.prog) (ds ++ gs)).all (· ≤ reachBytes) = true := hsz0
  have hW' := hW
  obtain ⟨p, q, hA0, hV, rfl, _, _⟩ := hW
  have hA : DataW.TrodAll enc Try.prog W 0 (fun _ => true) true Try.f3.params.toList args.toList ds p := hA0
  rw [Try.params3] at hA hval hsz
  obtain ⟨v0, vs0, d0, ds0, p0, q0, hargs, rfl, rfl, h0, r0⟩ := trodAll_cons hA
  obtain ⟨v1, vs1, d1, ds1, p1, q1, rfl, rfl, rfl, h1, r1⟩ := trodAll_cons r0
  obtain ⟨v2, vs2, d2, ds2, p2, q2, rfl, rfl, rfl, h2, r2⟩ := trodAll_cons r1
  obtain ⟨rfl, rfl, rfl⟩ := trodAll_nil r2
  obtain rfl : args = #[v0, v1, v2] := by cases args; simp_all
  obtain ⟨rfl, rfl⟩ := trodVars_none hV
  have hfit0 : Fits Try.prog 22 d0 := (fits_cons hsz).1
  have hfit1 : Fits Try.prog 28 d1 := (fits_cons (fits_cons hsz).2).1
  have hfit2 : Fits Try.prog 3 d2 := (fits_cons (fits_cons (fits_cons hsz).2).2).1
  obtain ⟨a0', len0, cap0, rfl⟩ := okWide_slice Try.underlying22 (hval 0 22 v0 rfl rfl)
  obtain ⟨fuel0, hf0⟩ := h0
  obtain ⟨A0, c0, b0, e0, hB0, _, hl0⟩ := open_byts Try.underlying22 Try.underlying5 (by kernel_rfl) (by kernel_rfl) hf0
  have e0' : Value.slice a0' len0 cap0 = .slice A0 b0.length c0 := by simpa [Value.cells] using e0
  rw [e0'] at hW' ⊢
  obtain ⟨cs1, rfl, _⟩ := okWide_struct Try.underlying28 (hval 1 28 v1 rfl rfl)
  obtain ⟨fuel1, hf1⟩ := h1
  obtain ⟨marker, typ, seq, time, source, cA, cc, cs, eA, ec, xs, pA, pc, bs, pad, e1, _, _, _, _, hC, hlc, hX, hlx, hP, _, hlp, _⟩ := open_pk hf1 hfit1
  have e1' : cs1 = pfC ⟨marker, typ, seq, time, source, pad⟩ (.slice cA cs.length cc) (.slice eA xs.length ec) (.slice pA bs.length pc) := by
    have e2 : cs1.toList = (pfC ⟨marker, typ, seq, time, source, pad⟩ (.slice cA cs.length cc) (.slice eA xs.length ec) (.slice pA bs.length pc)).toList := by simpa [Value.cells] using e1
    exact Array.ext' e2
  subst e1'
  obtain ⟨n2, rfl, rfl, rfl, w2⟩ := open_int Try.underlying3 (hval 2 3 v2 rfl rfl) h2
  refine (law3 (Img.of W) [] W A0 c0 b0 ⟨marker, typ, seq, time, source, pad⟩ cA eA pA cc ec pc cs xs bs n2 (St.of W) hB0 (hl0 hfit0) hC hX hP hlc hlx hlp).mono fun e W' ⟨v, J, M', he, hle, hs, hv, _⟩ => ?_
  subst hv
  have hb := St.end_ rfl hs hle
  subst he
  exact ⟨_, rfl, law_post laidOut (by rw [Try.params3]; decide +kernel) rfl Try.underlying4 rfl rfl rfl rfl hW' hb⟩

theorem over : Rows.rtpHeadsRow.holds Try.pinned (OpenSpec.ofChange Rows.rtpHeadsSpec) :=
  OpenClaim.holds_of_wide 3 Try.f3 rfl rfl rfl rfl rfl rfl rfl ⟨rfl, rfl, rfl, rfl, rfl⟩ rfl rfl rfl rfl rfl (by kernel_rfl) Try.func3 (by kernel_rfl)
    (of_decide_eq_true (by kernel_rfl)) (by unfold Func.isWrapper; first | (rw [if_pos (by decide +kernel)]; kernel_rfl) | (rw [if_neg (by decide +kernel)]; exact ⟨rfl, rfl⟩))
    (fun os started H enc _ => lifted os started H enc)

theorem proved : Rows.RtpHeadsSaid :=
  over
end Go.Proofs.Ytalmnbpljeaeaaa.rtpHeads
