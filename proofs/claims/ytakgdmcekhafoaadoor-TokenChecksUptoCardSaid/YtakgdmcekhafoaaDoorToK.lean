/- TokenFields: the law. -/
import Derived.Test.YtakgdmcekhafoaaDoorToJ
namespace Go.Proofs.YtakgdmcekhafoaaDoor
open Go.RowKit
set_option linter.unusedSimpArgs false

theorem clK {w : World} {b t : Nat} {c : Cl} (h : Blk w b t (clC c)) : w.cell? ⟨b, 0, none⟩ = some (.string c.room) ∧ w.cell? ⟨b, 1, none⟩ = some (.string c.user) ∧ w.cell? ⟨b, 2, none⟩ = some (.int .i64 c.til) ∧ w.cell? ⟨b, 3, none⟩ = some (.int .i64 c.rights) := ⟨h.cell 0, h.cell 1, h.cell 2, h.cell 3⟩
def eqCl (c d : Cl) : Bool := (c.room.toList == d.room.toList) && ((c.user.toList == d.user.toList) && ((c.til == d.til) && (c.rights == d.rights)))
theorem eqCl_self (c : Cl) : eqCl c c = true := by simp [eqCl]
theorem eqCl_ne {c d : Cl} (h : c ≠ d) : eqCl c d = false := by
  cases e : eqCl c d
  · rfl
  · exfalso
    simp only [eqCl, Bool.and_eq_true, beq_iff_eq, ByteArray.toList_eq] at e
    obtain ⟨r1, u1, t1, i1⟩ := c
    obtain ⟨r2, u2, t2, i2⟩ := d
    obtain ⟨e1, e2, e3, e4⟩ := e
    simp only at e1 e2 e3 e4
    obtain rfl := ls_inj e1
    obtain rfl := ls_inj e2
    subst e3 e4
    exact h rfl
theorem ext_pre (H X : ByteArray) : (H ++ X).extract 0 H.size = H := by
  apply ls_inj
  show ((H ++ X).extract 0 H.size).data.toList = H.data.toList
  rw [ByteArray.data_extract, ByteArray.data_append, Array.toList_extract, Array.toList_append, List.extract_eq_take_drop]
  exact List.take_left' (ls_len H)
theorem eq24 (c d : Cl) (w : World) : (binOp .eql 24 (.agg (clC c)) (.agg (clC d))).run Tryd.prog w = .ok (.bool (eqCl c d)) w := by
  have h1 := run_equalIn_agg (P := Tryd.prog) w 9999 24 (clC c) (clC d) (by kernel_rfl) (by kernel_rfl)
  have hf : (Tryd.prog.fieldsOf 24).toList = [⟨"Room", 9, 0, false, "", "", 0⟩, ⟨"User", 9, 1, false, "", "", 16⟩, ⟨"Until", 2, 2, false, "", "", 32⟩, ⟨"Rights", 3, 3, false, "", "", 40⟩] := by kernel_rfl
  rw [hf] at h1
  rw [run_eql_struct, h1]
  have q1 : ∀ (a b : ByteArray) (w : World), (Op.equalIn 9999 9 (.string a) (.string b)).run Tryd.prog w = .ok (a.toList == b.toList) w := fun a b w => run_equalIn_string w 9998 9 a b Tryd.underlying9
  have q2 : ∀ (a b : Int) (w : World), (Op.equalIn 9999 2 (.int .i64 a) (.int .i64 b)).run Tryd.prog w = .ok (a == b) w := fun a b w => run_equalIn_int w 9998 2 .i64 .i64 a b Tryd.underlying2
  have q3 : ∀ (a b : Int) (w : World), (Op.equalIn 9999 3 (.int .i64 a) (.int .i64 b)).run Tryd.prog w = .ok (a == b) w := fun a b w => run_equalIn_int w 9998 3 .i64 .i64 a b Tryd.underlying3
  simp only [Op.eqFields, clC, part, isAgg, Sem.run_bind, Sem.run_ite, run_underlying Tryd.underlying9, run_underlying Tryd.underlying2, run_underlying Tryd.underlying3, Result.andThen_ok, q1, q2, q3, Sem.run_pure]
  unfold eqCl
  by_cases h1 : c.room.toList = d.room.toList <;> by_cases h2 : c.user.toList = d.user.toList <;> by_cases h3 : c.til = d.til <;> by_cases h4 : c.rights = d.rights <;> simp [h1, h2, h3, h4, q1, q2, q3, go_sem]
set_option maxRecDepth 8000 in
set_option maxHeartbeats 2000000 in
theorem law4 (I : Img) (M : List Res) (w : World) (KA : Option Addr) (kc : Nat) (kb : List UInt8) (c d : Cl) (hst : St I M w) (hk : Byts I KA kb) (hkl : kb.length ≤ 140737488351232) (ht : Tab10 I) (hc : ClSz c) (hd : ClSz d) :
    Calls Tryd.prog 4 #[.slice KA kb.length kc, .agg (clC c), .agg (clC d)] w (Ret I (fun v _ _ => v = .bool true)) := by
  have hs := (hst.alloc 24 (clC c)).alloc 24 (clC d)
  rw [World.size_alloc] at hs
  obtain ⟨b1, hb1⟩ : ∃ b, b = w.heap.size := ⟨_, rfl⟩
  rw [← hb1] at hs
  obtain ⟨b2, hb2⟩ : ∃ b, b = b1 + 1 := ⟨_, rfl⟩
  rw [← hb2] at hs
  clear hst
  go_enter Tryd.func4, Tryd.ntmps4
  go_upto_region 1 with fail
  rw [← hb1, ← hb2]
  clear hb1 hb2
  generalize World.alloc _ _ = W at hs ⊢
  have HC := Lib.hid (awakeP I _ W hs ht)
  clear hs
  go_wp2_with fail
  go_at_call 8
  refine HC.out.mono ?_
  rintro e w1 ⟨_, J1, _, rfl, hl1, hs, rfl, rfl⟩
  clear HC
  have HC := Lib.hid (claimsP J1 _ w1 c hs)
  obtain ⟨y0, y1, y2, y3⟩ := clK (show Blk _ b1 24 (clC c) from hs.at 1 rfl); obtain ⟨z0, z1, z2, z3⟩ := clK (show Blk _ b2 24 (clC d) from hs.at 0 rfl)
  have HS := Lib.hid hs
  clear hs
  go_wp2_with fail
  go_at_call 11
  refine HC.out.mono ?_
  rintro e w2 ⟨_, _, _, rfl, _, hs, rfl, rfl, rfl⟩
  clear y0 y1 y2 y3 z0 z1 z2 z3 HC HS
  have HC := Lib.hid (makeP J1 _ w2 KA kc kb c hs (hk.mono hl1) hkl (ht.mono hl1) hc)
  clear hs
  go_wp2_with fail
  go_at_call 10
  refine HC.out.mono ?_
  rintro e w3 ⟨_, J2, _, rfl, hl2, hs, rfl, rfl⟩
  clear HC
  have HC := Lib.hid (claimsP J2 _ w3 d hs)
  obtain ⟨y0, y1, y2, y3⟩ := clK (show Blk _ b1 24 (clC c) from hs.at 1 rfl); obtain ⟨z0, z1, z2, z3⟩ := clK (show Blk _ b2 24 (clC d) from hs.at 0 rfl)
  have HS := Lib.hid hs
  clear hs
  go_wp2_with fail
  go_at_call 11
  refine HC.out.mono ?_
  rintro e w4 ⟨_, _, _, rfl, _, hs, rfl, rfl, rfl⟩
  clear y0 y1 y2 y3 z0 z1 z2 z3 HC HS
  have HC := Lib.hid (makeP J2 _ w4 KA kc kb d hs (hk.mono (hl1.trans hl2)) hkl (ht.mono (hl1.trans hl2)) hd)
  clear hs
  go_wp2_with fail
  go_at_call 10
  refine HC.out.mono ?_
  rintro e w5 ⟨_, J3, _, rfl, hl3, hs, rfl, rfl⟩
  clear HC
  have HL := Lib.hid (hl1.trans (hl2.trans hl3))
  cases gc : goodC c
  · have e1 := makeR_bad kb gc
    rw [e1]
    have HS := Lib.hid hs
    clear gc e1 hs
    go_wp2
    go_ret
    exact Ret.mk HL.out HS.out rfl
  cases gd : goodC d
  · have e1 := makeR_bad kb gd
    have e2 : (makeR kb c).2 = 0 := by rw [makeR_good kb gc]
    rw [e1, e2]
    have HS := Lib.hid hs
    clear gd gc e1 e2 hs
    go_wp2
    go_ret
    exact Ret.mk HL.out HS.out rfl
  have e1 : (makeR kb c).2 = 0 := by rw [makeR_good kb gc]
  have e2 : (makeR kb d).2 = 0 := by rw [makeR_good kb gd]
  rw [e1, e2]
  obtain ⟨n1, n2⟩ : c.room.size ≤ 32 ∧ c.user.size ≤ 32 := by
    obtain ⟨g1, g2, _⟩ := (goodC_iff c).1 gc
    have a1 := (word_size g1).1
    have a2 := (word_size g2).1
    omega
  obtain ⟨X, hX1, hX2, hX3, hX4⟩ := tok_form (kb := kb) gc
  obtain ⟨q, hq⟩ : ∃ q, q = eqCl c d := ⟨_, rfl⟩
  have hst : ((bsA (makeR kb c).1).toList == (bsA (makeR kb d).1).toList) = q := by
    rw [hq, ByteArray.toList_eq, ByteArray.toList_eq]
    by_cases h : c = d
    · subst h
      rw [eqCl_self]
      simp
    · rw [eqCl_ne h, beq_eq_false_iff_ne]
      exact fun e => h (tok_inj gc gd e)
  have heq : ∀ w, (binOp .eql 24 (.agg #[.string c.room, .string c.user, .int .i64 c.til, .int .i64 c.rights]) (.agg #[.string d.room, .string d.user, .int .i64 d.til, .int .i64 d.rights])).run Tryd.prog w = .ok (.bool q) w := fun w => by rw [hq]; exact eq24 c d w
  have hsz : (bsA (makeR kb c).1).size ≤ 141 := by rw [bsA_size]; exact hX4
  have hH : (bsA (makeR kb c).1) = c.room ++ ⟨#[46]⟩ ++ c.user ++ ⟨#[46]⟩ ++ bsA X := ls_inj (by
    show (makeR kb c).1 = _
    rw [hX1]
    simp [app_ls, headC])
  have hH2 : (c.room ++ ⟨#[46]⟩ ++ c.user ++ ⟨#[46]⟩).size + 44 ≤ (bsA (makeR kb c).1).size := by
    rw [hH, size_app _ (bsA X), bsA_size X]
    omega
  have hat : ∀ h, (bsA (makeR kb c).1)[(bsA (makeR kb c).1).size - 41]'h = 46 := fun h => by
    have h2 : (makeR kb c).1.length - 41 < (makeR kb c).1.length := by rw [← bsA_size]; exact h
    rw [List.getElem?_eq_getElem h2] at hX3
    injection hX3
  have hpre : ((bsA (makeR kb c).1).extract 0 (c.room ++ ⟨#[46]⟩ ++ c.user ++ ⟨#[46]⟩).size).toList = (c.room ++ ⟨#[46]⟩ ++ c.user ++ ⟨#[46]⟩).toList := by
    rw [hH]
    generalize c.room ++ ⟨#[46]⟩ ++ c.user ++ ⟨#[46]⟩ = H
    rw [ext_pre]
  have HH := Lib.hid hH
  generalize bsA (makeR kb c).1 = s at *
  generalize bsA (makeR kb d).1 = t at *
  obtain ⟨y0, y1, y2, y3⟩ := clK (show Blk _ b1 24 (clC c) from hs.at 1 rfl); obtain ⟨z0, z1, z2, z3⟩ := clK (show Blk _ b2 24 (clC d) from hs.at 0 rfl)
  have HS := Lib.hid hs
  clear hs e1 e2 gc gd hX1 hX2 hX3 hX4 hq hH HH
  go_upto_region 8 with fail
  generalize c.room ++ ⟨#[46]⟩ ++ c.user ++ ⟨#[46]⟩ = H at *
  have hge : (H.size : Int) + 44 ≤ s.size := by omega
  have hcut : (s.size : Int) - 41 < s.size := by omega
  go_wp2
  go_ret
  exact Ret.mk HL.out HS.out rfl
end Go.Proofs.YtakgdmcekhafoaaDoor
