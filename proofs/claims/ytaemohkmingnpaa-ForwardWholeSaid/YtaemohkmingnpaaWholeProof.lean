/- ForwardWhole answers true for every input, and leaves its arguments as they were. No condition. -/
import Derived.Test.YtaemohkmingnpaaOps
namespace Go.Proofs.Ytaemohkmingnpaa.forwardWhole
open Go.ChangeShapes Go.WideShapes Go.ChangeAt Go.RowKit Go.Joins
open Go.ChangeMaps (open_string shut_string)

theorem own : ownKnob Try.prog.godebug = none := by kernel_rfl
theorem laidOut : laidOutB Try.prog = true := by kernel_rfl

set_option maxRecDepth 100000 in
set_option linter.unusedVariables false in
theorem lifted (os : Os) (started : os.Started) (H : Type) (enc : TypeId × Value → H) :
    ReturnsInHanded {} Try.checked os 3 .any (Rows.forwardWholeSpec.pre6 enc Try.prog Try.f3 Rows.forwardWholeRow.domain false) (Rows.forwardWholeSpec.post enc Try.prog Try.f3 false true false false) := by
  refine returnsInHanded_of_change_sized (C := Try.checked) own started (by kernel_rfl) Try.func3
    (ChangeSpec.witness6 (enc := enc) (C := Try.checked) false ⟨#[], #[.agg #[.string ⟨#[]⟩, .int .i64 0, .int .u32 0, .int .i64 0, .int .u16 0, .int .u32 0], .int .u16 0, .slice none 0 0], []⟩ 8 (by kernel_rfl) (by kernel_rfl) (by kernel_rfl) (by kernel_rfl)) ?_
  intro W base args ds gs before hval0 hW _ hsz0 _
  have hval : ∀ (j : Nat) t v, Try.f3.params[j]? = some t → args[j]? = some v → Value.okWide Try.prog W .any base t v := hval0
  have hsz : (DataW.weightsEach Try.prog (Try.f3.params.toList ++ Rows.forwardWholeSpec.plain.varTypes Try.prog) (ds ++ gs)).all (· ≤ reachBytes) = true := hsz0
  have hW' := hW
  obtain ⟨p, q, hA0, hV, rfl, _, _⟩ := hW
  have hA : DataW.TrodAll enc Try.prog W 0 (fun _ => true) true Try.f3.params.toList args.toList ds p := hA0
  rw [Try.params3] at hA hval hsz
  obtain ⟨v0, vs0, d0, ds0, p0, q0, hargs, rfl, rfl, h0, r0⟩ := trodAll_cons hA
  obtain ⟨v1, vs1, d1, ds1, p1, q1, rfl, rfl, rfl, h1, r1⟩ := trodAll_cons r0
  obtain ⟨v2, vs2, d2, ds2, p2, q2, rfl, rfl, rfl, h2, r2⟩ := trodAll_cons r1
  obtain ⟨rfl, rfl, rfl⟩ := trodAll_nil r2
  obtain rfl : args = #[v0, v1, v2] := by cases args; simp_all
  obtain ⟨rfl, rfl⟩ := trodVars_none hV
  have hfit0 : Fits Try.prog 25 d0 := (fits_cons hsz).1
  have hfit1 : Fits Try.prog 23 d1 := (fits_cons (fits_cons hsz).2).1
  have hfit2 : Fits Try.prog 26 d2 := (fits_cons (fits_cons (fits_cons hsz).2).2).1
  obtain ⟨cs0, rfl, _⟩ := okWide_struct Try.underlying25 (hval 0 25 v0 rfl rfl)
  obtain ⟨fuel0, hf0⟩ := h0
  obtain ⟨m, e0, hm⟩ := open_made hf0 hfit0
  have e0' : cs0 = mdC m := by
    have e1 : cs0.toList = (mdC m).toList := by simpa [Value.cells] using e0
    exact Array.ext' e1
  subst e0'
  obtain ⟨n1, rfl, rfl, rfl, w1⟩ := open_int Try.underlying23 (hval 1 23 v1 rfl rfl) h1
  have b1 : 0 ≤ n1 ∧ n1 ≤ 65535 := by simpa [Lit.wf, IntKind.min, IntKind.max, IntKind.signed, IntKind.bits] using w1
  obtain ⟨a2', len2, cap2, rfl⟩ := okWide_slice Try.underlying26 (hval 2 26 v2 rfl rfl)
  obtain ⟨fuel2, hf2⟩ := h2
  obtain ⟨A2, c2, us, e2, hR2, _, hl2, _⟩ := open_rows (El := ElB) (size := 1) (by_ := 24) Try.underlying26 (by kernel_rfl) (by kernel_rfl) (by decide) (by decide) (fun f cs x h hF => by
    obtain ⟨A, c, bs, e, hB, _, hl⟩ := open_byts Try.underlying34 Try.underlying5 (by kernel_rfl) (by kernel_rfl) h
    exact ⟨bs, A, c, e, hB, hl hF⟩) hf2 hfit2
  have e2' : Value.slice a2' len2 cap2 = .slice A2 us.length c2 := by simpa [Value.cells] using e2
  rw [e2'] at hW' ⊢
  refine (law3 (Img.of W) [] W m n1 A2 c2 us (St.of W) hm b1 (rows_of hR2).1 hl2 (rows_of hR2).2).mono fun e W' ⟨v, J, M', he, hle, hs, hv, _⟩ => ?_
  subst hv
  have hb := St.end_ rfl hs hle
  subst he
  exact ⟨_, rfl, law_post laidOut (by rw [Try.params3]; decide +kernel) rfl Try.underlying4 rfl rfl rfl rfl hW' hb⟩

theorem over : Rows.forwardWholeRow.holds Try.pinned (OpenSpec.ofChange Rows.forwardWholeSpec) :=
  OpenClaim.holds_of_wide 3 Try.f3 rfl rfl rfl rfl rfl rfl rfl ⟨rfl, rfl, rfl, rfl, rfl⟩ rfl rfl rfl rfl rfl (by kernel_rfl) Try.func3 (by kernel_rfl)
    (of_decide_eq_true (by kernel_rfl)) (by unfold Func.isWrapper; first | (rw [if_pos (by decide +kernel)]; kernel_rfl) | (rw [if_neg (by decide +kernel)]; exact ⟨rfl, rfl⟩))
    (fun os started H enc _ => lifted os started H enc)

theorem proved : Rows.ForwardWholeSaid :=
  over
end Go.Proofs.Ytaemohkmingnpaa.forwardWhole
