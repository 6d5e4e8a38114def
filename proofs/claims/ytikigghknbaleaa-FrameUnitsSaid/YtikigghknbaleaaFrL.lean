/- FrameUnits. -/
import Derived.Test.YtikigghknbaleaaFrK
namespace Go.Proofs.Ytikigghknbaleaa
open Go.RowKit
set_option linter.unusedSimpArgs false

/-- a slice of slices of bytes -/
def Rows (I : Img) (A : Option Addr) (us : List (List UInt8)) : Prop := 0 < us.length → ∃ g o, A = some ⟨g, o, none⟩ ∧ ∀ i (h : i < us.length), ∃ B c, I.cell? ⟨g, o + i, none⟩ = some (.slice B us[i].length c) ∧ Byts I B us[i]
theorem Rows.mono {I J : Img} {A : Option Addr} {us : List (List UInt8)} (h : Rows I A us) (hl : I.le J) : Rows J A us := fun h0 => by
  obtain ⟨g, o, e, hc⟩ := h h0
  refine ⟨g, o, e, fun i hi => ?_⟩
  obtain ⟨B, c, h1, h2⟩ := hc i hi
  exact ⟨B, c, hl.cell h1, h2.mono hl⟩
def unitB (u : List UInt8) : List UInt8 := byteOf ((u.length : Int) / 256) :: byteOf ((u.length : Int) % 256) :: u
def flat (us : List (List UInt8)) : List UInt8 := us.flatMap unitB
def goodU (u : List UInt8) : Prop := 0 < u.length ∧ u.length ≤ 60000
def wantS (us : List (List UInt8)) : Bool := us.any fun u => keyC (u.getD 0 0)
theorem flat_snoc (us : List (List UInt8)) (u : List UInt8) : flat (us ++ [u]) = flat us ++ unitB u := by simp [flat]
theorem unitB_len (u : List UInt8) : (unitB u).length = u.length + 2 := by simp [unitB]
theorem flat_len (us : List (List UInt8)) (h : ∀ u ∈ us, goodU u) : (flat us).length ≤ us.length * 60002 := by
  induction us with
  | nil => simp [flat]
  | cons u r ih =>
    have h1 := (h u (by simp)).2
    have h2 := ih fun x hx => h x (by simp [hx])
    have h3 : (flat (u :: r)).length = (unitB u).length + (flat r).length := by simp [flat]
    rw [h3, unitB_len, List.length_cons]
    omega
theorem units_flat (us : List (List UInt8)) (h : ∀ u ∈ us, goodU u) : unitsA (flat us) = wantS us := by
  induction us with
  | nil => unfold unitsA; rfl
  | cons u r ih =>
    have h1 := h u (by simp)
    have h2 := ih fun x hx => h x (by simp [hx])
    have e1 : ((byteOf ((u.length : Int) / 256)).toNat : Int) = (u.length : Int) / 256 := byteOf_nat (by omega) (by have := h1.2; omega)
    have e2 : ((byteOf ((u.length : Int) % 256)).toNat : Int) = (u.length : Int) % 256 := byteOf_nat (by omega) (by omega)
    have e3 : (byteOf ((u.length : Int) / 256)).toNat * 256 + (byteOf ((u.length : Int) % 256)).toNat = u.length := by omega
    have hf : flat (u :: r) = byteOf ((u.length : Int) / 256) :: byteOf ((u.length : Int) % 256) :: (u ++ flat r) := by simp [flat, unitB]
    rw [hf, unitsA_cons, e3, if_neg (by have := h1.1; rw [List.length_append]; omega), List.drop_left, h2]
    have hg : (u ++ flat r).getD 0 0 = u.getD 0 0 := by
      rcases u with _ | ⟨x, t⟩
      · have := h1.1; simp at this
      · rfl
    rw [hg]
    simp [wantS]
theorem h264_24 (l : List UInt8) : beginsS ⟨#[72, 50, 54, 52]⟩ (24 :: l) = (true, unitsA l) := by
  have h1 : isV ⟨#[72, 50, 54, 52]⟩ = false := by unfold isV; rw [ByteArray.toList_eq]; rfl
  have h2 : isH ⟨#[72, 50, 54, 52]⟩ = true := by unfold isH; rw [ByteArray.toList_eq]; rfl
  simp [beginsS, h1, h2, h264S]
theorem lit_srcV {P : Program} {w : World} {t e : TypeId} (ht : P.underlying t = some (.slice e)) (l : List Value) (h1 : ∀ u ∈ l, u.oneCell' = true) : Src P 1 t (.slice (some ⟨w.heap.size, 0, none⟩) l.length l.length) l.length l (w.alloc (.cells l.toArray e)) := by
  refine Src.ofSlice _ ht _ _ _ _ (by rw [Nat.mul_one]) (fun j u hj => ?_) h1
  rw [add_at, Nat.zero_add, World.cell?_alloc_new]
  simpa using hj
theorem wantS_snoc (us : List (List UInt8)) (u : List UInt8) : wantS (us ++ [u]) = (wantS us || keyC (u.getD 0 0)) := by simp [wantS]
theorem take_last {us : List (List UInt8)} {j : Nat} (h : j < us.length) : us.take (j + 1) = us.take j ++ [us[j]] := by
  rw [List.take_succ_eq_append_getElem h]
theorem good_snoc {us : List (List UInt8)} {u : List UInt8} (h : ∀ x ∈ us, goodU x) (hu : goodU u) : ∀ x ∈ us ++ [u], goodU x := by
  intro x hx
  rcases List.mem_append.1 hx with hx | hx
  · exact h x hx
  · rw [List.mem_singleton.1 hx]; exact hu

set_option maxHeartbeats 4000000 in
set_option maxRecDepth 100000 in
theorem law4 (I : Img) (M : List Res) (w : World) (A : Option Addr) (c : Nat) (us : List (List UInt8)) (hst : St I M w) (hb : Rows I A us) (hl : us.length ≤ 140737488351232) (hlu : ∀ u ∈ us, u.length ≤ 140737488351232) :
    Calls Try.prog 4 #[.slice A us.length c] w (Yes I M) := by
  obtain ⟨i0, hi, hz0, hz1, hz2⟩ := info_parts infoU8
  have HI := Lib.hid (And.intro hi (And.intro hz0 (And.intro hz1 hz2)))
  have HB := Lib.hid hb
  have HLU := Lib.hid hlu
  clear hb hlu hi hz0 hz1 hz2
  go_enter Try.func4, Try.ntmps4
  go_wp2_with fail
  refine (awakeC I M _ hst).mono ?_
  clear hst
  rintro e w1 ⟨_, J, M, rfl, hle, hst, rfl, rfl⟩
  have hs0 := St.fresh (e := 5) (size := 1) (n := 1) (v := .slice (some ⟨w1.heap.size, 0, none⟩) 1 1) (xs := bvs [24]) hst (hst.grow (.cells #[.int .u8 24] 5)) (World.ownsRow_lit (base := w1.heap.size) (e := 5) (size := 1) w1 #[.int .u8 24] 1 (Nat.le_refl _) (by unfold maxLen; omega) rfl)
  have H0 := Lib.hid (And.intro hle hs0)
  clear hst hle hs0
  go_wp2
  go_loopw [3, 4, 14] (fun v wt i wr => ∃ (j : Nat) (b : Bool), j ≤ us.length ∧ j ≤ 20 ∧ i = .int .i64 j ∧ wt = .bool b ∧ Hid (b = wantS (us.take j) ∧ (∀ u ∈ us.take j, goodU u) ∧ ∃ J, I.le J ∧ St J (row 5 1 v (24 :: flat (us.take j)).length (bvs (24 :: flat (us.take j))) :: M) wr)) (fun _ _ i _ => us.length - (intOf i).toNat)
  case atStart => exact ⟨0, false, by omega, by omega, rfl, rfl, rfl, by simp, J, H0.out.1, H0.out.2⟩
  case round =>
    obtain ⟨j, b, hj, hj20, rfl, rfl, hh⟩ := hrel
    obtain ⟨hbw, hgood, J, hle, hst⟩ := hh.out
    clear hh H0
    obtain ⟨A3, c3, rfl⟩ := own_form hst.head
    have hfl := flat_len _ hgood
    rw [List.length_take] at hfl
    have hfl2 : (flat (us.take j)).length ≤ 1200040 := by
      have : min j us.length * 60002 ≤ 20 * 60002 := Nat.mul_le_mul_right _ (by omega)
      omega
    have HW := Lib.hid (And.intro hbw hgood)
    clear hbw hgood hfl
    by_cases hlt : j < us.length
    · obtain ⟨u, hu⟩ : ∃ u, u = us[j] := ⟨_, rfl⟩
      obtain ⟨g, o, rfl, hc⟩ := HB.out (by omega)
      obtain ⟨B, cu, hcell, hby⟩ := hc j hlt
      have hlu := HLU.out us[j] (List.getElem_mem hlt)
      rw [← hu] at hcell hby hlu
      have hz := hst.cell (hle.cell hcell)
      have HBY := Lib.hid (hby.mono hle)
      have HST := Lib.hid hst
      have HLE := Lib.hid hle
      have HU := Lib.hid hu
      clear hc hcell hby hst hle hu
      by_cases hg : goodU u ∧ j < 20
      · have h1 : ((u.length : Int) == 0) = false := by have := hg.1.1; rw [beq_eq_false_iff_ne]; omega
        have h2 : (u.length : Int) ≤ 60000 := by have := hg.1.2; omega
        have h3 : (j : Int) < 20 := by omega
        have h4 : (0 : Int) < u.length := by have := hg.1.1; omega
        have hq : (u.length : Int) / 256 < 256 := by omega
        have HG := Lib.hid hg.1
        obtain ⟨x, t, rfl⟩ : ∃ x t, u = x :: t := by
          rcases u with _ | ⟨x, t⟩
          · have := hg.1.1; simp at this
          · exact ⟨x, t, rfl⟩
        obtain ⟨gb, ob, rfl, hx0, _⟩ := HBY.out.at0
        have hx := hx0 _ _ HST.out
        clear hx0 hg
        have xl := x.toNat_lt
        generalize hL : (x :: t).length = L at *
        have Hl := Lib.hid (lit_srcV (P := Try.prog) (w := wr) (t := 22) (e := 5) Try.underlying22 [.int .u8 ((L : Int) / 256), .int .u8 ((L : Int) % 256)] (by intro u hu; simp at hu; rcases hu with rfl | rfl <;> rfl))
        have hown : wr.ownsRow 0 5 1 (.slice A3 (24 :: flat (us.take j)).length c3) (24 :: flat (us.take j)).length (bvs (24 :: flat (us.take j))) := HST.out.head
        have Hown4 := Lib.hid (hown.alloc (.cells #[.int .u8 ((L : Int) / 256), .int .u8 ((L : Int) % 256)] 5))
        clear hown
        obtain ⟨hi, hz0, hz1, hz2⟩ := HI.out
        go_wp2_with (at_builtin; refine wpList_append_src _ rfl _ _ 22 22 rfl 0 5 i0 (.int .u8 0) 1 1 Try.underlying22 hi hz0 hz1 hz2 rfl _ _ _ rfl Hown4.out _ _ _ rfl Hl.out (by unfold maxLen; simp only [List.length_cons, List.length_nil]; omega) (by simp only [List.length_cons, List.length_nil]; omega) (by simp) ?_)
        intro v4 w4 hown' hgrow hat
        have hst4 := St.grown (HST.out.grow (.cells #[.int .u8 ((L : Int) / 256), .int .u8 ((L : Int) % 256)] 5)) hgrow hown' (by simpa using hat)
        have hbb : bvs (24 :: flat (us.take j)) ++ [.int .u8 ((L : Int) / 256), .int .u8 ((L : Int) % 256)] = bvs (24 :: flat (us.take j) ++ [byteOf ((L : Int) / 256), byteOf ((L : Int) % 256)]) := by
          rw [bvs_append]
          simp only [bvs, List.map_cons, List.map_nil]
          rw [bv_byteOf (by omega) (by omega), bv_byteOf (by omega) (by omega)]
        rw [hbb] at hst4
        have Hst4 := Lib.hid hst4
        obtain ⟨A4, c4, rfl⟩ := own_form hst4.head
        have Hown := Lib.hid (show w4.ownsRow 0 5 1 _ _ _ from hst4.head)
        have Hsrc := Lib.hid (HBY.out.src hst4 Try.underlying22 cu)
        rw [hL] at Hsrc
        clear hown' hgrow hat hbb hst4 Hl Hown4
        go_wp2_with (at_builtin; refine wpList_append_src _ rfl _ _ 22 22 rfl 0 5 i0 (.int .u8 0) 1 1 Try.underlying22 hi hz0 hz1 hz2 rfl _ _ _ rfl Hown.out _ _ _ rfl Hsrc.out (by unfold maxLen; first | omega | (simp only [List.length_cons, List.length_nil]; omega)) (by first | omega | (simp only [List.length_cons, List.length_nil]; omega)) (by simp) ?_)
        intro v5 w5 hown' hgrow hat
        have hst5 := St.grown Hst4.out hgrow hown' hat
        have hbb : bvs (24 :: (flat (us.take j) ++ [byteOf ((L : Int) / 256), byteOf ((L : Int) % 256)])) ++ bvs (x :: t) = bvs (24 :: flat (us.take (j + 1))) := by
          rw [take_last hlt, ← HU.out, flat_snoc, ← bvs_append]
          unfold unitB
          rw [hL]
          simp
        rw [hbb] at hst5
        have hlen5 : (24 :: flat (us.take (j + 1))).length = (flat (us.take j)).length + 1 + 2 + L := by
          rw [take_last hlt, ← HU.out, flat_snoc, List.length_cons, List.length_append, unitB_len, hL]; omega
        have Hst5 := Lib.hid hst5
        obtain ⟨A5, c5, rfl⟩ := own_form hst5.head
        have hx5 : w5.cell? ⟨gb, ob, none⟩ = some (.int .u8 x.toNat) := (HBY.out.at0).elim fun g' h => h.elim fun o' h => by
          obtain ⟨e, h, _⟩ := h
          cases e
          exact h _ _ hst5
        have HL5 := Lib.hid hlen5
        have HK := Lib.hid (keyI x)
        have hnew := HW.out
        have HW2 := Lib.hid (show ∀ u ∈ us.take (j + 1), goodU u by rw [take_last hlt, ← HU.out]; exact good_snoc hnew.2 HG.out)
        have HW3 := Lib.hid (show wantS (us.take (j + 1)) = (b || keyC x) by rw [take_last hlt, ← HU.out, wantS_snoc, hnew.1]; rfl)
        clear hown' hgrow hat hbb hst5 hlen5 hi hz0 hz1 hz2 Hst4 Hown Hsrc hx hz hnew
        cases b
        all_goals
          cases t5 : ((x.toNat : Int) % 32 == 5)
          all_goals
            go_wp2
            go_roundw
            case rel => exact ⟨j + 1, _, by omega, by omega, by go_num, rfl, by rw [HW3.out, HK.out, t5]; simp, HW2.out, J, HLE.out, by rw [HL5.out]; exact Hst5.out⟩
            case measure => simp [intOf]; omega
      · have hbad : u.length = 0 ∨ 60000 < u.length ∨ 20 ≤ j := by
          unfold goodU at hg; omega
        have hbw := HW.out.1
        have hun := units_flat _ HW.out.2
        obtain ⟨J2, hle2, hst2, hB2⟩ := St.freezeRow HST.out
        have HB2 := Lib.hid (show Byts J2 A3 (24 :: flat (us.take j)) from hB2)
        have HL2 := Lib.hid (HLE.out.trans hle2)
        have h8 := beginsP J2 M wr ⟨#[72, 50, 54, 52]⟩ A3 c3 (24 :: flat (us.take j)) hst2 HB2.out (by rw [List.length_cons]; omega)
        rw [h264_24, hun, ← hbw] at h8
        have H8 := Lib.hid h8
        clear h8 hst2 hB2 hle2 hbw hun
        by_cases hu0 : u.length = 0
        · have h1 : ((u.length : Int) == 0) = true := by rw [beq_iff_eq]; omega
          go_wp2_with fail
          refine H8.out.mono ?_
          rintro e w9 ⟨_, J3, M, rfl, hle3, hst9, rfl, rfl⟩
          have H9 := Lib.hid hst9
          clear hst9
          unfold two
          cases b
          all_goals
            go_wp2
            go_returns
            exact Ret.mk (HL2.out.trans hle3) H9.out ⟨rfl, rfl⟩
        · have h1 : ((u.length : Int) == 0) = false := by rw [beq_eq_false_iff_ne]; omega
          by_cases hu6 : 60000 < u.length
          · have h2 : (60000 : Int) < u.length := by omega
            go_wp2_with fail
            refine H8.out.mono ?_
            rintro e w9 ⟨_, J3, M, rfl, hle3, hst9, rfl, rfl⟩
            have H9 := Lib.hid hst9
            clear hst9
            unfold two
            cases b
            all_goals
              go_wp2
              go_returns
              exact Ret.mk (HL2.out.trans hle3) H9.out ⟨rfl, rfl⟩
          · have h2 : (u.length : Int) ≤ 60000 := by omega
            have h3 : (20 : Int) ≤ j := by omega
            go_wp2_with fail
            refine H8.out.mono ?_
            rintro e w9 ⟨_, J3, M, rfl, hle3, hst9, rfl, rfl⟩
            have H9 := Lib.hid hst9
            clear hst9
            unfold two
            cases b
            all_goals
              go_wp2
              go_returns
              exact Ret.mk (HL2.out.trans hle3) H9.out ⟨rfl, rfl⟩
    · have hbw := HW.out.1
      have hun := units_flat _ HW.out.2
      obtain ⟨J2, hle2, hst2, hB2⟩ := St.freezeRow hst
      have HB2 := Lib.hid (show Byts J2 A3 (24 :: flat (us.take j)) from hB2)
      have HL2 := Lib.hid (hle.trans hle2)
      have h8 := beginsP J2 M wr ⟨#[72, 50, 54, 52]⟩ A3 c3 (24 :: flat (us.take j)) hst2 HB2.out (by rw [List.length_cons]; omega)
      rw [h264_24, hun, ← hbw] at h8
      have H8 := Lib.hid h8
      clear h8 hst2 hB2 hle2 hbw hun
      clear hst
      go_wp2_with fail
      refine H8.out.mono ?_
      rintro e w9 ⟨_, J3, M, rfl, hle3, hst9, rfl, rfl⟩
      have H9 := Lib.hid hst9
      clear hst9
      unfold two
      cases b
      all_goals
        go_wp2
        go_returns
        exact Ret.mk (HL2.out.trans hle3) H9.out ⟨rfl, rfl⟩
end Go.Proofs.Ytikigghknbaleaa
