/- ForwardTimes answers true for every input, and leaves its arguments as they were. No condition. -/
import Derived.Test.YtaemohkmingnpaaOps
import Derived.Test.YtaemohkmingnpaaFwK
namespace Go.Proofs.Ytaemohkmingnpaa.forwardTimes
open Go.ChangeShapes Go.WideShapes Go.ChangeAt Go.RowKit Go.Joins
open Go.ChangeMaps (open_string shut_string)

theorem own : ownKnob Try.prog.godebug = none := by kernel_rfl
theorem laidOut : laidOutB Try.prog = true := by kernel_rfl

set_option maxRecDepth 100000 in
set_option linter.unusedVariables false in
theorem lifted (os : Os) (started : os.Started) (H : Type) (enc : TypeId × Value → H) :
    ReturnsInHanded {} Try.checked os 5 .any (Rows.forwardTimesSpec.pre6 enc Try.prog Try.f5 Rows.forwardTimesRow.domain false) (Rows.forwardTimesSpec.post enc Try.prog Try.f5 false true false false) := by
  refine returnsInHanded_of_change_sized (C := Try.checked) own started (by kernel_rfl) Try.func5
    (ChangeSpec.witness6 (enc := enc) (C := Try.checked) false ⟨#[], #[.agg #[.string ⟨#[]⟩, .int .i64 0, .int .u32 0, .int .i64 0, .int .u16 0, .int .u32 0], .slice none 0 0], []⟩ 8 (by kernel_rfl) (by kernel_rfl) (by kernel_rfl) (by kernel_rfl)) ?_
  intro W base args ds gs before hval0 hW _ hsz0 _
  have hval : ∀ (j : Nat) t v, Try.f5.params[j]? = some t → args[j]? = some v → Value.okWide Try.prog W .any base t v := hval0
  have hsz : (DataW.weightsEach Try.prog (Try.f5.params.toList ++ Rows.forwardTimesSpec.plain.varTypes Try.prog) (ds ++ gs)).all (· ≤ reachBytes) = true := hsz0
  have hW' := hW
  obtain ⟨p, q, hA0, hV, rfl, _, _⟩ := hW
  have hA : DataW.TrodAll enc Try.prog W 0 (fun _ => true) true Try.f5.params.toList args.toList ds p := hA0
  rw [Try.params5] at hA hval hsz
  obtain ⟨v0, vs0, d0, ds0, p0, q0, hargs, rfl, rfl, h0, r0⟩ := trodAll_cons hA
  obtain ⟨v1, vs1, d1, ds1, p1, q1, rfl, rfl, rfl, h1, r1⟩ := trodAll_cons r0
  obtain ⟨rfl, rfl, rfl⟩ := trodAll_nil r1
  obtain rfl : args = #[v0, v1] := by cases args; simp_all
  obtain ⟨rfl, rfl⟩ := trodVars_none hV
  have hfit0 : Fits Try.prog 25 d0 := (fits_cons hsz).1
  have hfit1 : Fits Try.prog 42 d1 := (fits_cons (fits_cons hsz).2).1
  obtain ⟨cs0, rfl, _⟩ := okWide_struct Try.underlying25 (hval 0 25 v0 rfl rfl)
  obtain ⟨fuel0, hf0⟩ := h0
  obtain ⟨m, e0, hm⟩ := open_made hf0 hfit0
  have e0' : cs0 = mdC m := by
    have e1 : cs0.toList = (mdC m).toList := by simpa [Value.cells] using e0
    exact Array.ext' e1
  subst e0'
  obtain ⟨a1', len1, cap1, rfl⟩ := okWide_slice Try.underlying42 (hval 1 42 v1 rfl rfl)
  obtain ⟨fuel1, hf1⟩ := h1
  obtain ⟨A1, c1, us, e1, hR1, _, hl1, _⟩ := open_rows (El := ElOp) (size := 7) (by_ := 64) Try.underlying42 (by kernel_rfl) (by kernel_rfl) (by decide) (by decide) (fun f cs x h hF => by
    obtain ⟨y, e, hB, _, hl, hok⟩ := open_opd h hF
    exact ⟨y, e, hB, hl, hok⟩) hf1 hfit1
  have e1' : Value.slice a1' len1 cap1 = .slice A1 us.length c1 := by simpa [Value.cells] using e1
  rw [e1'] at hW' ⊢
  refine (law5 (Img.of W) [] W m A1 c1 us (St.of W) hm (ops_of hR1) hl1).mono fun e W' ⟨v, J, M', he, hle, hs, hv, _⟩ => ?_
  subst hv
  have hb := St.end_ rfl hs hle
  subst he
  exact ⟨_, rfl, law_post laidOut (by rw [Try.params5]; decide +kernel) rfl Try.underlying4 rfl rfl rfl rfl hW' hb⟩

theorem over : Rows.forwardTimesRow.holds Try.pinned (OpenSpec.ofChange Rows.forwardTimesSpec) :=
  OpenClaim.holds_of_wide 5 Try.f5 rfl rfl rfl rfl rfl rfl rfl ⟨rfl, rfl, rfl, rfl, rfl⟩ rfl rfl rfl rfl rfl (by kernel_rfl) Try.func5 (by kernel_rfl)
    (of_decide_eq_true (by kernel_rfl)) (by unfold Func.isWrapper; first | (rw [if_pos (by decide +kernel)]; kernel_rfl) | (rw [if_neg (by decide +kernel)]; exact ⟨rfl, rfl⟩))
    (fun os started H enc _ => lifted os started H enc)

theorem proved : Rows.ForwardTimesSaid :=
  over
end Go.Proofs.Ytaemohkmingnpaa.forwardTimes
