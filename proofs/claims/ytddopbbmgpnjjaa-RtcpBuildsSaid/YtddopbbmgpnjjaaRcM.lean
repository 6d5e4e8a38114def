/- rtcp.marks: the iterator. -/
import Derived.Test.YtddopbbmgpnjjaaRcL
namespace Go.Proofs.Ytddopbbmgpnjjaa
open Go.RowKit
set_option linter.unusedSimpArgs false

/-- an arrival's mark -/
def markOf (a : Int) : Int := if a = 65536 then 0 else if 0 ≤ a ∧ a ≤ 255 then 1 else 2
def markP (a : Int) : Int × Int := (markOf a, a)
set_option maxRecDepth 100000 in
set_option maxHeartbeats 8000000 in
theorem marks71 {σ : Type} (ok : σ → Int × Int → Prop) (step : σ → Int × Int → σ) (X : σ → World → Prop) (I : Img) (l B : Nat) (list : List Int) (A : Option Addr) (c : Nat) (hA : Cells I A (flat intC list)) (hln : list.length ≤ 17592186040000)
    (hst : ∀ s W, X s W → ∃ M', St I (bk B 48 #[.slice A list.length c] :: M') W)
    (hY : ∀ (s : σ) (x : Int × Int) (W : World), X s W → ok s x → YieldAt Fence.wide 0 Try.prog l #[.int .i64 x.1, .int .i64 x.2] W fun e W' => e = .returned (.bool true) ∧ X (step s x) W')
    (s0 : σ) (hok : ∀ k (h : k < list.length), ok (((list.take k).map markP).foldl step s0) (markP list[k]))
    (w : World) (hX : X s0 w) :
    Calls Try.prog 71 #[.func (.yield l) #[] #[], .pointer (some ⟨B, 0, none⟩)] w fun e W' => (∃ v, e = .returned v) ∧ X ((list.map markP).foldl step s0) W' := by
  have H0 := Lib.hid hX
  have HY := Lib.hid hY
  have HST := Lib.hid hst
  have HOK := Lib.hid hok
  have HA := Lib.hid hA
  obtain ⟨M0, hs0⟩ := hst _ _ hX
  obtain ⟨hcB, hfB, hltB⟩ := (show Blk w B 48 #[.slice A list.length c] from hs0.at 0 rfl).one
  clear hX hY hst hok hA hs0
  go_enter Try.func71, Try.ntmps71
  go_wp2_with fail
  go_loopw [8] (fun iv wr => ∃ k : Nat, k ≤ list.length ∧ iv = .int .i64 k ∧ Hid (X (((list.take k).map markP).foldl step s0) wr)) (fun iv _ => list.length - (intOf iv).toNat)
  case atStart => exact ⟨0, by omega, rfl, H0.out⟩
  case round =>
    obtain ⟨k, hk, rfl, hh⟩ := hrel
    clear H0 hcB hfB hltB
    by_cases hlt : k < list.length
    · obtain ⟨M1, hs1⟩ := HST.out _ _ hh.out
      obtain ⟨g, o, rfl, hcell⟩ := flat_get (s := 1) (fun _ => rfl) HA.out (by omega) (by decide)
      replace hcell : wr.cell? ⟨g, o + k, none⟩ = some (.int .i64 list[k]) := by
        have := hcell _ _ hs1 k hlt 0 (by decide)
        simpa using this
      have hy0 := HY.out _ (markP list[k]) wr hh.out (HOK.out k hlt)
      have htk : (list.take (k + 1)).map markP = (list.take k).map markP ++ [markP list[k]] := by
        rw [List.take_succ_eq_append_getElem hlt, List.map_append]; rfl
      obtain ⟨x, hx⟩ : ∃ x, x = list[k] := ⟨_, rfl⟩
      rw [← hx] at hcell hy0 htk
      obtain ⟨fn, tmps, assign, body, hy, hR⟩ := hy0
      have HR := Lib.hid hR
      have HTK := Lib.hid htk
      have HW := Lib.hid (withinC x 0 255 wr)
      clear hs1 hx htk hh hR
      simp only [markP] at hy
      go_upto_block 2 with fail
      go_cut [5] (fun v5 wx => v5 = .int .i64 (markOf x) ∧ wx = wr)
      case first =>
        by_cases h1 : x = 65536
        · have HE := Lib.hid (show markOf x = 0 from by unfold markOf; rw [if_pos h1])
          have g1 : (x == 65536) = true := by rw [h1]; rfl
          clear h1
          go_wp2
          go_meet
          exact ⟨by rw [HE.out], rfl⟩
        · have g1 : (x == 65536) = false := beq_eq_false_iff_ne.2 h1
          cases hb : withinB x 0 255
          · have HE := Lib.hid (show markOf x = 2 from by unfold markOf; rw [if_neg h1, if_neg (within_no hb)])
            clear h1
            go_wp2_with fail
            go_at_call 19
            refine HW.out.mono ?_
            rintro e w2 ⟨rfl, hw⟩
            subst hw
            go_wp2
            go_meet
            exact ⟨by rw [HE.out], rfl⟩
          · have HE := Lib.hid (show markOf x = 1 from by unfold markOf; rw [if_neg h1, if_pos (within_yes hb)])
            clear h1
            go_wp2_with fail
            go_at_call 19
            refine HW.out.mono ?_
            rintro e w2 ⟨rfl, hw⟩
            subst hw
            go_wp2
            go_meet
            exact ⟨by rw [HE.out], rfl⟩
      case rest =>
        obtain ⟨rfl, rfl⟩ := hcut
        go_upto_region 8 with fail
        refine (wpIn_wide (n := 0)).1 ?_
        gi_wp2
        refine ⟨rfl, HR.out.mono ?_⟩
        rintro e W' ⟨rfl, hX⟩
        have HX : Hid (X (((list.take (k + 1)).map markP).foldl step s0) W') := Lib.hid (by rw [HTK.out, List.foldl_append]; exact hX)
        clear hX HR hy
        gi_wp2
        go_wp2
        go_roundw
        case rel => exact ⟨k + 1, by omega, by go_num, HX.out⟩
        case measure => simp [intOf]; omega
    · have hkk : k = list.length := by omega
      subst hkk
      have HF : Hid (X ((list.map markP).foldl step s0) wr) := Lib.hid (by have h := hh.out; rw [List.take_length] at h; exact h)
      clear hh
      go_wp2
      go_returns
      exact ⟨⟨_, rfl⟩, HF.out⟩
end Go.Proofs.Ytddopbbmgpnjjaa
