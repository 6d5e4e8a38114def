/- the law's own: awake, claims. -/
import Derived.Test.YtakgdmcekhafoaaDoorToI
namespace Go.Proofs.YtakgdmcekhafoaaDoor
open Go.RowKit
set_option linter.unusedSimpArgs false

theorem size30 : (Tryd.prog.info? 30).map (·.size) = some 4 := by kernel_rfl
set_option maxRecDepth 8000 in
set_option maxHeartbeats 1000000 in
theorem claimsP (I : Img) (M : List Res) (w : World) (c : Cl) (hst : St I M w) : Calls Tryd.prog 11 #[.agg (clC c)] w (Ret I (fun v J M' => I = J ∧ v = .agg (clC c) ∧ M' = M)) := by
  have hs := (hst.alloc 24 (clC c)).alloc 30 #[.string ⟨#[]⟩, .string ⟨#[]⟩, .int .i64 0, .int .i64 0]
  rw [World.size_alloc] at hs
  obtain ⟨b, hb⟩ : ∃ b, b = w.heap.size := ⟨_, rfl⟩
  rw [← hb] at hs
  clear hst
  go_enter Tryd.func11, Tryd.ntmps11
  go_upto_region 1 with fail
  rw [← hb]
  clear hb
  generalize World.alloc _ _ = W at hs ⊢
  obtain ⟨y0, y1, y2, y3⟩ := (show W.cell? ⟨b, 0, none⟩ = some (.string c.room) ∧ W.cell? ⟨b, 1, none⟩ = some (.string c.user) ∧ W.cell? ⟨b, 2, none⟩ = some (.int .i64 c.til) ∧ W.cell? ⟨b, 3, none⟩ = some (.int .i64 c.rights) from by
    have h : Blk W b 24 (clC c) := hs.at 1 rfl
    exact ⟨h.cell 0, h.cell 1, h.cell 2, h.cell 3⟩)
  have HS := Lib.hid (show St I (bk (b + 1) 30 (clC c) :: _) _ from (((hs.set 0 (.string c.room)).set 1 (.string c.user)).set 2 (.int .i64 c.til)).set 3 (.int .i64 c.rights))
  have HS0 := Lib.hid hs
  clear hs
  obtain ⟨z0, z1, z2, z3, f0, f1, f2, f3, -⟩ := Blk.four (show Blk W (b + 1) 30 _ from HS0.out.head)
  go_wp2
  refine bodyPost_ret (results_cell_row (p := 2) (ty := 30) rfl _ _ (b + 1) 30 (clC c) (0, 0) _ rfl HS.out.head Tryd.underlying30 rfl size30) rfl ?_
  exact Ret.mk (.refl I) HS.out.drop.drop ⟨rfl, rfl, rfl⟩
def cAw : Cl := ⟨bsA [114], bsA [117], 100, 3⟩
theorem goodAw : goodC cAw = true := by decide
theorem textAw : textC cAw = [114, 46, 117, 46, 49, 48, 48, 46, 51] := by
  rw [textC_dec goodAw]
  have h1 : Lib.decDigits cAw.til.toNat = [49, 48, 48] := by
    show Lib.decDigits 100 = _
    rw [dec_big (by decide), dec_big (by decide), dec_small (by decide)]
    rfl
  have h2 : Lib.decDigits cAw.rights.toNat = [51] := by
    show Lib.decDigits 3 = _
    rw [dec_small (by decide)]
    rfl
  rw [h1, h2]
  rfl
set_option maxRecDepth 8000 in
set_option maxHeartbeats 1000000 in
theorem awakeP (I : Img) (M : List Res) (w : World) (hst : St I M w) (ht : Tab10 I) : Calls Tryd.prog 8 #[] w (Ret I (fun v _ M' => v = .bool true ∧ M' = M)) := by
  have hm := makeP I M w none 0 [] cAw hst (Byts.nil I none) (by decide) ht ⟨by decide, by decide⟩
  rw [makeR_good [] goodAw, textAw] at hm
  obtain ⟨X, hX⟩ : ∃ X, X = bsA ([114, 46, 117, 46, 49, 48, 48, 46, 51] ++ 46 :: hexOf (macS [] [114, 46, 117, 46, 49, 48, 48, 46, 51])) := ⟨_, rfl⟩
  have hz : X.size = 50 := by rw [hX, bsA_size]; simp only [List.length_append, List.length_cons, hexOf_len, macS_len, List.length_nil]
  dsimp only at hm
  rw [← hX] at hm
  have HM : Hid (Calls Tryd.prog 10 #[.slice none 0 0, .agg #[.string ⟨#[114]⟩, .string ⟨#[117]⟩, .int .i64 100, .int .i64 3]] w (Ret I (fun v _ M' => v = .tuple #[.string X, .int .i64 0] ∧ M' = M))) := hm
  have h10 : ((X.extract 0 10).toList == [114, 46, 117, 46, 49, 48, 48, 46, 51, 46]) = true := by
    rw [ByteArray.toList_eq, hX]
    simp
  clear hm hst hX
  go_enter Tryd.func8, Tryd.ntmps8
  go_wp2_with fail
  go_at_call 10
  refine HM.out.mono ?_
  rintro e w2 ⟨_, J, _, rfl, hl, hs2, rfl, rfl⟩
  have HS := Lib.hid hs2
  clear HM hs2
  go_wp2
  go_ret
  exact Ret.mk hl HS.out ⟨rfl, rfl⟩
end Go.Proofs.YtakgdmcekhafoaaDoor
