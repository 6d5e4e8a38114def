/- Find, its reference; RtpHeads. -/
import Derived.Test.YtalmnbpljeaeaaaRtC
import Derived.Test.YtalmnbpljeaeaaaRtA
namespace Go.Proofs.Ytalmnbpljeaeaaa
open Go.RowKit
set_option linter.unusedSimpArgs false

def hit (xs : List XD) (id : Int) : Option (List UInt8) := (xs.find? (fun x => x.id == id)).map (·.d)
theorem hit_keys {xs ys : List XD} (h : ys.map (fun x => (x.id, x.d)) = xs.map (fun x => (x.id, x.d))) (id : Int) : hit ys id = hit xs id := by
  have e : ∀ l : List XD, hit l id = ((l.map (fun x => (x.id, x.d))).find? (fun k => k.1 == id)).map (·.2) := fun l => by
    induction l with
    | nil => rfl
    | cons x r ih =>
      unfold hit at ih ⊢
      simp only [List.find?_cons, List.map_cons]
      split
      · rfl
      · exact ih
  rw [e, e, h]
theorem hit_yes {xs : List XD} {id : Int} {i : Nat} (h : i < xs.length) (hid : xs[i].id = id) (hno : ∀ j (hj : j < xs.length), j < i → xs[j].id ≠ id) : hit xs id = some xs[i].d := by
  unfold hit
  have : xs.find? (fun x => x.id == id) = some xs[i] := by
    rw [List.find?_eq_some_iff_getElem]
    refine ⟨by simpa using hid, i, h, rfl, fun j hj => ?_⟩
    have := hno j (by omega) hj
    simpa using this
  rw [this]
  rfl
theorem hit_no {xs : List XD} {id : Int} (hno : ∀ j (hj : j < xs.length), xs[j].id ≠ id) : hit xs id = none := by
  unfold hit
  have : xs.find? (fun x => x.id == id) = none := by
    rw [List.find?_eq_none]
    intro x hx
    obtain ⟨j, hj, rfl⟩ := List.getElem_of_mem hx
    simpa using hno j hj
  rw [this]
  rfl
set_option maxHeartbeats 2000000 in
theorem refFindC (I : Img) (M : List Res) (w : World) (p : Pf) (cv pv : Value) (eA : Option Addr) (ec : Nat) (xs : List XD) (id : Int) (hst : St I M w) (hX : Exts I eA xs) (hlx : xs.length ≤ 140737488351232) :
    Calls Try.prog 9 #[.agg (pfC p cv (.slice eA xs.length ec) pv), .int .i64 id] w (Ret I (fun v J M' => I = J ∧ M' = M ∧ ∃ A c, v = .tuple #[.slice A ((hit xs id).getD []).length c, .bool (hit xs id).isSome] ∧ Byts I A ((hit xs id).getD []) ∧ ((hit xs id).getD []).length ≤ 140737488351232)) := by
  have HX := Lib.hid hX
  have hst1 := hst.alloc 28 (pfC p cv (.slice eA xs.length ec) pv)
  clear hst hX
  go_enter Try.func9, Try.ntmps9
  obtain ⟨hcB, _, _⟩ := Blk.all hst1.head
  go_upto_region 1 with fail
  generalize World.alloc w _ = W at hst1 hcB ⊢
  go_wp2
  clear hcB
  go_loopw [10] (fun iv wr => ∃ k : Nat, k ≤ xs.length ∧ iv = .int .i64 k ∧ wr = W ∧ Hid (∀ j (hj : j < xs.length), j < k → xs[j].id ≠ id)) (fun iv _ => xs.length - (intOf iv).toNat)
  case atStart => exact ⟨0, by omega, rfl, rfl, fun j hj h => by omega⟩
  case round =>
    obtain ⟨k, hk, rfl, hwr, hno⟩ := hrel
    subst wr
    obtain ⟨hcB, _, _⟩ := Blk.all hst1.head
    have HST := Lib.hid hst1
    clear hst1
    by_cases hlt : k < xs.length
    · obtain ⟨g, o, rfl, hc⟩ := HX.out.atI (by omega)
      obtain ⟨z0, z1⟩ := hc k hlt
      have hxm := HX.out.2 xs[k] (List.getElem_mem hlt)
      obtain ⟨x, hx⟩ : ∃ x, x = xs[k] := ⟨_, rfl⟩
      rw [← hx] at z0 z1 hxm
      replace z0 := HST.out.cell z0
      replace z1 := HST.out.cell z1
      have HH := Lib.hid (And.intro hx hxm)
      clear hc hx hxm
      by_cases hid : x.id = id
      · have hhit : hit xs id = some x.d := by
          rw [HH.out.1]
          exact hit_yes hlt (by rw [← HH.out.1]; exact hid) hno.out
        have HHIT := Lib.hid hhit
        have hbe : (x.id == id) = true := by simpa using hid
        clear hhit hid
        go_wp2
        go_returns
        refine Ret.mk (.refl I) HST.out.drop ⟨rfl, rfl, x.A, x.c, ?_⟩
        rw [HHIT.out]
        exact ⟨rfl, HH.out.2⟩
      · have hbe : (x.id == id) = false := by simpa using hid
        have HNO := Lib.hid (show ∀ j (hj : j < xs.length), j < k + 1 → xs[j].id ≠ id from fun j hj h => by
          by_cases e : j = k
          · subst e; rw [← HH.out.1]; exact hid
          · exact hno.out j hj (by omega))
        clear hid hno
        go_wp2
        go_roundw
        case rel => exact ⟨k + 1, by omega, by go_num, trivial, HNO⟩
        case measure => simp [intOf]; omega
    · have hk' : k = xs.length := by omega
      have HHIT := Lib.hid (hit_no (xs := xs) (id := id) (fun j hj => hno.out j hj (by omega)))
      have hk2 : (xs.length : Int) ≤ k := by omega
      clear hlt hno
      go_wp2
      go_returns
      refine Ret.mk (.refl I) HST.out.drop ⟨rfl, rfl, none, 0, ?_⟩
      rw [HHIT.out]
      exact ⟨rfl, Byts.nil I none, by simp⟩
set_option maxHeartbeats 2000000 in
theorem findC (I : Img) (M : List Res) (w : World) (p : Pf) (cv pv : Value) (eA : Option Addr) (ec : Nat) (xs : List XD) (id : Int) (hst : St I M w) (hX : Exts I eA xs) (hlx : xs.length ≤ 140737488351232) :
    Calls Try.prog 7 #[.agg (pfC p cv (.slice eA xs.length ec) pv), .int .i64 id] w (Ret I (fun v J M' => I = J ∧ ∃ A c, v = .tuple #[.slice A ((hit xs id).getD []).length c, .bool (hit xs id).isSome] ∧ M' = row 5 1 (.slice A ((hit xs id).getD []).length c) ((hit xs id).getD []).length (bvs ((hit xs id).getD [])) :: M)) := by
  have HX := Lib.hid hX
  have hst1 := hst.alloc 37 (pfC p cv (.slice eA xs.length ec) pv)
  clear hst hX
  go_enter Try.func7, Try.ntmps7
  obtain ⟨hcB, _, _⟩ := Blk.all hst1.head
  go_upto_region 1 with fail
  generalize World.alloc w _ = W at hst1 hcB ⊢
  go_wp2
  clear hcB
  have H0 := Lib.hid hst1.drop
  clear hst1
  go_loopw [11] (fun iv wr => ∃ k : Nat, k ≤ xs.length ∧ iv = .int .i64 k ∧ Hid (St I M wr ∧ ∀ j (hj : j < xs.length), j < k → xs[j].id ≠ id)) (fun iv _ => xs.length - (intOf iv).toNat)
  case atStart => exact ⟨0, by omega, rfl, H0.out, fun j hj h => by omega⟩
  case round =>
    obtain ⟨k, hk, rfl, hh⟩ := hrel
    obtain ⟨hs, hno'⟩ := hh.out
    have hno := Lib.hid hno'
    clear hh H0 hno'
    by_cases hlt : k < xs.length
    · obtain ⟨g, o, rfl, hc⟩ := HX.out.atI (by omega)
      obtain ⟨z0, z1⟩ := hc k hlt
      have hxm := HX.out.2 xs[k] (List.getElem_mem hlt)
      obtain ⟨x, hx⟩ : ∃ x, x = xs[k] := ⟨_, rfl⟩
      rw [← hx] at z0 z1 hxm
      replace z0 := hs.cell z0
      replace z1 := hs.cell z1
      have HH := Lib.hid (And.intro hx hxm)
      have HS := Lib.hid (hs.alloc 45 #[.int .i64 x.id, .slice x.A x.d.length x.c]).drop
      clear hc hx hxm hs
      by_cases hid : x.id = id
      · have hhit : hit xs id = some x.d := by
          rw [HH.out.1]
          exact hit_yes hlt (by rw [← HH.out.1]; exact hid) hno.out
        have HHIT := Lib.hid hhit
        have hbe : (x.id == id) = true := by simpa using hid
        clear hhit hid
        go_wp2_with (go_at_call 11; refine (clone x.A x.c x.d HS.out HH.out.2.1 HH.out.2.2).mono ?_; rintro e w' ⟨_, _, _, rfl, hle, hs, rfl, A, c, rfl, hc, rfl⟩)
        go_returns
        refine Ret.mk (.refl I) hs ⟨rfl, A, c, ?_⟩
        rw [HHIT.out]
        exact ⟨rfl, rfl⟩
      · have hbe : (x.id == id) = false := by simpa using hid
        have HNO := Lib.hid (show ∀ j (hj : j < xs.length), j < k + 1 → xs[j].id ≠ id from fun j hj h => by
          by_cases e : j = k
          · subst e; rw [← HH.out.1]; exact hid
          · exact hno.out j hj (by omega))
        clear hid hno
        go_wp2
        go_roundw
        case rel => exact ⟨k + 1, by omega, by go_num, HS.out, HNO.out⟩
        case measure => simp [intOf]; omega
    · have hk' : k = xs.length := by omega
      have HHIT := Lib.hid (hit_no (xs := xs) (id := id) (fun j hj => hno.out j hj (by omega)))
      have hk2 : (xs.length : Int) ≤ k := by omega
      have HS := Lib.hid hs
      clear hlt hno hs
      go_wp2
      go_returns
      refine Ret.mk (.refl I) (HS.out.nil (e := 5) (size := 1)) ⟨rfl, none, 0, ?_⟩
      rw [HHIT.out]
      exact ⟨rfl, rfl⟩
end Go.Proofs.Ytalmnbpljeaeaaa
