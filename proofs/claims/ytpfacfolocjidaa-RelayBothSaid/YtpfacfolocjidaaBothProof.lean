/- RelayBoth answers true for every input, and leaves its arguments as they were. No condition. -/
import Derived.Test.YtpfacfolocjidaaBothOps
namespace Go.Proofs.Ytpfacfolocjidaa.relayBoth
open Go.ChangeShapes Go.WideShapes Go.ChangeAt Go.RowKit Go.Joins
open Go.ChangeMaps (open_string shut_string)

theorem own : ownKnob Try.prog.godebug = none := by kernel_rfl
theorem laidOut : laidOutB Try.prog = true := by kernel_rfl

set_option maxRecDepth 100000 in
set_option linter.unusedVariables false in
theorem lifted (os : Os) (started : os.Started) (H : Type) (enc : TypeId × Value → H) :
    ReturnsInHanded {} Try.checked os 5 .any (Rows.relayBothSpec.pre6 enc Try.prog Try.f5 Rows.relayBothRow.domain false) (Rows.relayBothSpec.post enc Try.prog Try.f5 false true false false) := by
  refine returnsInHanded_of_change_sized (C := Try.checked) own started (by kernel_rfl) Try.func5
    (ChangeSpec.witness6 (enc := enc) (C := Try.checked) false ⟨#[], #[.slice none 0 0, .slice none 0 0, .slice none 0 0], []⟩ 8 (by kernel_rfl) (by kernel_rfl) (by kernel_rfl) (by kernel_rfl)) ?_
  intro W base args ds gs before hval0 hW _ hsz0 _
  have hval : ∀ (j : Nat) t v, Try.f5.params[j]? = some t → args[j]? = some v → Value.okWide Try.prog W .any base t v := hval0
  have hsz : (DataW.weightsEach Try.prog (Try.f5.params.toList ++ Rows.relayBothSpec.plain.varTypes Try.prog) (ds ++ gs)).all (· ≤ reachBytes) = true := hsz0
  have hW' := hW
  obtain ⟨p, q, hA0, hV, rfl, _, _⟩ := hW
  have hA : DataW.TrodAll enc Try.prog W 0 (fun _ => true) true Try.f5.params.toList args.toList ds p := hA0
  rw [Try.params5] at hA hval hsz
  obtain ⟨v0, vs0, d0, ds0, p0, q0, hargs, rfl, rfl, h0, r0⟩ := trodAll_cons hA
  obtain ⟨v1, vs1, d1, ds1, p1, q1, rfl, rfl, rfl, h1, r1⟩ := trodAll_cons r0
  obtain ⟨v2, vs2, d2, ds2, p2, q2, rfl, rfl, rfl, h2, r2⟩ := trodAll_cons r1
  obtain ⟨rfl, rfl, rfl⟩ := trodAll_nil r2
  obtain rfl : args = #[v0, v1, v2] := by cases args; simp_all
  obtain ⟨rfl, rfl⟩ := trodVars_none hV
  have hfit0 : Fits Try.prog 52 d0 := (fits_cons hsz).1
  have hfit1 : Fits Try.prog 53 d1 := (fits_cons (fits_cons hsz).2).1
  have hfit2 : Fits Try.prog 27 d2 := (fits_cons (fits_cons (fits_cons hsz).2).2).1
  obtain ⟨a0', len0, cap0, rfl⟩ := okWide_slice Try.underlying52 (hval 0 52 v0 rfl rfl)
  obtain ⟨fuel0, hf0⟩ := h0
  obtain ⟨A0, c0, zs, e0, hN, hl0⟩ := open_nums Try.underlying52 Try.underlying22 (by kernel_rfl) (by kernel_rfl) hf0
  have e0' : Value.slice a0' len0 cap0 = .slice A0 zs.length c0 := by simpa [Value.cells] using e0
  rw [e0'] at hW' ⊢
  obtain ⟨a1', len1, cap1, rfl⟩ := okWide_slice Try.underlying53 (hval 1 53 v1 rfl rfl)
  obtain ⟨fuel1, hf1⟩ := h1
  obtain ⟨A1, c1, ss, e1, hS, hl1⟩ := open_texts Try.underlying53 Try.underlying9 (by kernel_rfl) (by kernel_rfl) hf1
  have e1' : Value.slice a1' len1 cap1 = .slice A1 ss.length c1 := by simpa [Value.cells] using e1
  rw [e1'] at hW' ⊢
  obtain ⟨a2', len2, cap2, rfl⟩ := okWide_slice Try.underlying27 (hval 2 27 v2 rfl rfl)
  obtain ⟨fuel2, hf2⟩ := h2
  obtain ⟨A2, c2, b2, e2, hB, _, hl2⟩ := open_byts Try.underlying27 Try.underlying5 (by kernel_rfl) (by kernel_rfl) hf2
  have e2' : Value.slice a2' len2 cap2 = .slice A2 b2.length c2 := by simpa [Value.cells] using e2
  rw [e2'] at hW' ⊢
  refine (c5 A0 A1 A2 c0 c1 c2 zs ss b2 W hN hS hB (hl0 hfit0) (hl1 hfit1) (hl2 hfit2)).mono fun e W' ⟨he, hb⟩ => ?_
  subst he
  exact ⟨_, rfl, law_post laidOut (by rw [Try.params5]; decide +kernel) rfl Try.underlying4 rfl rfl rfl rfl hW' hb⟩

theorem over : Rows.relayBothRow.holds Try.pinned (OpenSpec.ofChange Rows.relayBothSpec) :=
  OpenClaim.holds_of_wide 5 Try.f5 rfl rfl rfl rfl rfl rfl rfl ⟨rfl, rfl, rfl, rfl, rfl⟩ rfl rfl rfl rfl rfl (by kernel_rfl) Try.func5 (by kernel_rfl)
    (of_decide_eq_true (by kernel_rfl)) (by unfold Func.isWrapper; first | (rw [if_pos (by decide +kernel)]; kernel_rfl) | (rw [if_neg (by decide +kernel)]; exact ⟨rfl, rfl⟩))
    (fun os started H enc _ => lifted os started H enc)

theorem proved : Rows.RelayBothSaid :=
  over
end Go.Proofs.Ytpfacfolocjidaa.relayBoth
