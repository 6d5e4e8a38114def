/- RtcpTurned holds at every input. No condition. -/
import Derived.Test.YtddopbbmgpnjjaaZT41
namespace Go.Proofs.Ytddopbbmgpnjjaa.rtcpTurned
open Go.ChangeShapes Go.WideShapes Go.ChangeAt Go.RowKit Go.Joins
open Go.ChangeMaps (open_string shut_string)
theorem own : ownKnob Try.prog.godebug = none := by kernel_rfl
theorem laidOut : laidOutB Try.prog = true := by kernel_rfl
set_option maxRecDepth 100000 in
set_option linter.unusedVariables false in
theorem lifted (os : Os) (started : os.Started) (H : Type) (enc : TypeId × Value -> H) :
  ReturnsInHanded {} Try.checked os 6 .any (Rows.rtcpTurnedSpec.pre6 enc Try.prog Try.f6 Rows.rtcpTurnedRow.domain false) (Rows.rtcpTurnedSpec.post enc Try.prog Try.f6 false true false false) := by
 refine returnsInHanded_of_change_sized (C := Try.checked) own started (by kernel_rfl) Try.func6
  (ChangeSpec.witness6 (enc := enc) (C := Try.checked) false ⟨#[], #[.slice none 0 0, .int .i64 0, .int .u8 0], []⟩ 8 (by kernel_rfl) (by kernel_rfl) (by kernel_rfl) (by kernel_rfl)) ?_
 intro W base args ds gs before hval0 hW _ hsz0 _
 have hval : ∀ (j : Nat) t v, Try.f6.params[j]? = some t -> args[j]? = some v -> Value.okWide Try.prog W .any base t v := hval0
 have hsz : (DataW.weightsEach Try.prog (Try.f6.params.toList ++ Rows.rtcpTurnedSpec.plain.varTypes Try.prog) (ds ++ gs)).all (· <= reachBytes) = true := hsz0
 have hW' := hW
 obtain ⟨p, q, hA0, hV, rfl, _, _⟩ := hW
 have hA : DataW.TrodAll enc Try.prog W 0 (fun _ => true) true Try.f6.params.toList args.toList ds p := hA0
 rw [Try.params6] at hA hval hsz
 obtain ⟨v0, vs0, d0, ds0, p0, q0, hargs, rfl, rfl, h0, r0⟩ := trodAll_cons hA
 obtain ⟨v1, vs1, d1, ds1, p1, q1, rfl, rfl, rfl, h1, r1⟩ := trodAll_cons r0
 obtain ⟨v2, vs2, d2, ds2, p2, q2, rfl, rfl, rfl, h2, r2⟩ := trodAll_cons r1
 obtain ⟨rfl, rfl, rfl⟩ := trodAll_nil r2
 obtain rfl : args = #[v0, v1, v2] := by cases args; simp_all
 obtain ⟨rfl, rfl⟩ := trodVars_none hV
 have hfit0 : Fits Try.prog 22 d0 := (ZT hsz).1
 have hfit1 : Fits Try.prog 3 d1 := (ZT (ZT hsz).2).1
 have hfit2 : Fits Try.prog 5 d2 := (ZT (ZT (ZT hsz).2).2).1
 obtain ⟨a0', len0, cap0, rfl⟩ := okWide_slice Try.underlying22 (hval 0 22 v0 rfl rfl)
 obtain ⟨fuel0, hf0⟩ := h0
 obtain ⟨A0, c0, ps, e0, hR0, kk0, kl0, _⟩ := WX (El := ElP) (size := 16) (by_ := 192) Try.underlying22 (by kernel_rfl) (by kernel_rfl) (by decide) (by decide) (fun f cs x h hF => open_pk h hF) hf0 hfit0
 have e0' : Value.slice a0' len0 cap0 = .slice A0 ps.length c0 := by simpa [Value.cells] using e0
 have hPks := pks_of hR0 kk0
 obtain ⟨n1, rfl, rfl, rfl, w1⟩ := open_int Try.underlying3 (hval 1 3 v1 rfl rfl) h1
 obtain ⟨n2, rfl, rfl, rfl, w2⟩ := open_int Try.underlying5 (hval 2 5 v2 rfl rfl) h2
 rw [e0'] at hW' ⊢
 refine (law6 (Zh.of W) [] W A0 c0 ps hPks n1 n2 (wf8 w2).1 (wf8 w2).2 (St.of W)).mono fun e W' ⟨v, J, M', he, Z5, hs, hv, _⟩ => ?_
 subst hv
 have hb := St.end_ rfl hs Z5
 subst he
 exact ⟨_, rfl, law_post laidOut (by rw [Try.params6]; decide +kernel) rfl Try.underlying4 rfl rfl rfl rfl hW' hb⟩
theorem over : Rows.rtcpTurnedRow.holds Try.pinned (OpenSpec.ofChange Rows.rtcpTurnedSpec) :=
 OpenClaim.holds_of_wide 6 Try.f6 rfl rfl rfl rfl rfl rfl rfl ⟨rfl, rfl, rfl, rfl, rfl⟩ rfl rfl rfl rfl rfl (by kernel_rfl) Try.func6 (by kernel_rfl)
  (of_decide_eq_true (by kernel_rfl)) (by unfold Func.isWrapper; first | (rw [if_pos (by decide +kernel)]; kernel_rfl) | (rw [if_neg (by decide +kernel)]; exact ⟨rfl, rfl⟩))
  (fun os started H enc _ => lifted os started H enc)
theorem proved : Rows.RtcpTurnedSaid :=
 over
end Go.Proofs.Ytddopbbmgpnjjaa.rtcpTurned
