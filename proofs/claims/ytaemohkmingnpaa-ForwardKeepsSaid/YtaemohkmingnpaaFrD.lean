/- frame.h264: H264's units, of the program. -/
import Derived.Test.YtaemohkmingnpaaFrC
namespace Go.Proofs.Ytaemohkmingnpaa
open Go.RowKit
set_option linter.unusedSimpArgs false

theorem and31 (c : UInt8) : bits BinOp.and IntKind.u8 (c.toNat : Int) 31 = (c.toNat : Int) % 32 := by
  have h : ∀ n, n < 256 → bits BinOp.and IntKind.u8 ((n : Nat) : Int) 31 = (n : Int) % 32 := by decide +kernel
  exact h _ c.toNat_lt
theorem and128 (c : UInt8) : (bits BinOp.and IntKind.u8 (c.toNat : Int) 128 != 0) = decide ((128 : Int) ≤ c.toNat) := by
  have h : ∀ n, n < 256 → (bits BinOp.and IntKind.u8 ((n : Nat) : Int) 128 != 0) = decide ((128 : Int) ≤ (n : Int)) := by decide +kernel
  exact h _ c.toNat_lt
theorem keyI (c : UInt8) : keyC c = ((c.toNat : Int) % 32 == 5 || (c.toNat : Int) % 32 == 7) := by unfold keyC; rw [Bool.eq_iff_iff]; simp; omega
set_option maxHeartbeats 400000 in
theorem keyP (c : UInt8) (w : World) : Calls Try.prog 39 #[.int .u8 c.toNat] w fun e w' => e = .returned (.bool (keyC c)) ∧ w = w' := by
  have e := and31 c
  have HK := Lib.hid (keyI c)
  cases t5 : ((c.toNat : Int) % 32 == 5)
  all_goals
    go_enter Try.func39, Try.ntmps39
    go_wp2
    all_goals
      go_returns
      exact ⟨ret_eq (by rw [HK.out, t5]; rfl), rfl⟩
theorem row_first {I : Img} {M : List Res} {w : World} {e n n' c : Nat} {A : Option Addr} {x : UInt8} {l : List UInt8} (h : St I (row e 1 (.slice A n' c) n (bvs (x :: l)) :: M) w) : ∃ g, A = some ⟨g, 0, none⟩ ∧ w.cell? ⟨g, 0, none⟩ = some (.int .u8 x.toNat) := by
  have ho : w.ownsRow 0 e 1 (.slice A n' c) n (bvs (x :: l)) := h.head
  rcases ho.2 with ⟨hv, h0⟩ | ⟨g, cap, cur, hv, _⟩
  · have := ho.1; rw [h0] at this; simp [bvs] at this
  · injection hv with hA _ _
    subst hA
    have := ho.cells (g := g) rfl 0 (bv x) (by simp [bvs])
    rw [add_at] at this
    exact ⟨g, rfl, this⟩
theorem cut2_short {l : List UInt8} (h : l.length < 2) : cutS 2 (l, false) = ([], (l, true)) := by unfold cutS; rw [if_pos (.inr (.inr (by simp only []; omega)))]
theorem cut2_long (x y : UInt8) (l : List UInt8) : cutS 2 (x :: y :: l, false) = ([x, y], (l, false)) := by
  unfold cutS; rw [if_neg (by simp only [List.length_cons]; rintro (h | h | h); cases h; omega; omega)]; rfl
theorem cut_no {n : Int} {l : List UInt8} (h : (l.length : Int) < n) : cutS n (l, false) = ([], (l, true)) := by unfold cutS; rw [if_pos (.inr (.inr h))]
theorem cut_bad {n : Int} {l : List UInt8} : cutS n (l, true) = ([], (l, true)) := by unfold cutS; rw [if_pos (.inl rfl)]
theorem cut_yes {n : Nat} {l : List UInt8} (h : n ≤ l.length) : cutS n (l, false) = (l.take n, (l.drop n, false)) := by
  unfold cutS; rw [if_neg (by rintro (h | h | h); cases h; omega; simp only [] at h; omega)]; rfl
theorem numL_nil : numL [] = 0 := rfl
theorem num_two (x y : UInt8) : numL [x, y] = x.toNat * 256 + y.toNat := by simp [numL]
theorem unitsA_short {l : List UInt8} (h : l.length < 2) : unitsA l = false := by
  rcases l with _ | ⟨u, _ | ⟨v, l⟩⟩
  · unfold unitsA; rfl
  · unfold unitsA; rfl
  · simp only [List.length_cons] at h; omega

/-- how many bytes a reader has left, read off the world -/
def lenAt (w : World) (p : Nat) : Nat := match w.cell? ⟨p, 0, none⟩ with | some (.slice _ n _) => n | _ => 0
theorem lenAt_eq {I : Img} {M : List Res} {w : World} {p : Nat} {r : RS} {b : Res} (h : St I (b :: M) w) (hR : Rdr I p r b) : lenAt w p = r.1.length := by
  obtain ⟨A, c, rfl, _⟩ := hR
  obtain ⟨h0, _⟩ := Blk.two h.head
  simp [lenAt, h0]
set_option maxHeartbeats 2000000 in
theorem h264P (I : Img) (M : List Res) (w : World) (A : Option Addr) (c : Nat) (b : List UInt8) (hst : St I M w) (hb : Byts I A b) (hl : b.length ≤ 140737488351232) :
    Calls Try.prog 30 #[.slice A b.length c] w (Ret I (fun v _ M' => v = two (h264S b) ∧ M' = M)) := by
  have HB := Lib.hid hb
  clear hb
  rcases b with _ | ⟨b0, r⟩
  · go_enter Try.func30, Try.ntmps30
    go_wp2_with fail
    refine (rd_new A c [] hst HB.out hl).mono ?_
    clear hst
    rintro e w1 ⟨_, J, _, rfl, hle, hst, p, br, rfl, hR, rfl⟩
    go_wp2_with fail
    refine (rd_byte p _ _ hst hR).mono ?_
    clear hst hR
    rintro e w2 ⟨_, J2, M2, rfl, -, hst, rfl, rfl, br2, hR, rfl⟩
    rw [nx_nil] at hR
    go_wp2_with (go_at_call 38; refine (rd_bad p _ _ hst hR).mono ?_; rintro e w' ⟨rfl, rfl⟩; try dsimp only)
    go_returns
    exact Ret.mk hle hst.drop ⟨rfl, rfl⟩
  have b0l := b0.toNat_lt
  have e31 := and31 b0
  have hk := keyP b0
  go_enter Try.func30, Try.ntmps30
  go_wp2_with fail
  refine (rd_new A c (b0 :: r) hst HB.out hl).mono ?_
  clear hst
  rintro e w1 ⟨_, J, _, rfl, hle, hst, p, br, rfl, hR, rfl⟩
  go_wp2_with fail
  refine (rd_byte p _ _ hst hR).mono ?_
  clear hst hR
  rintro e w2 ⟨_, J2, M2, rfl, -, hst, rfl, rfl, br, hR, rfl⟩
  rw [nx_cons] at hR
  rw [u8_cons]
  go_wp2_with fail
  refine (rd_bad p _ _ hst hR).mono ?_
  rintro e w' ⟨rfl, rfl⟩
  dsimp only
  by_cases k1 : 1 ≤ b0.toNat % 32 ∧ b0.toNat % 32 ≤ 23
  · have HZ := Lib.hid (show h264S (b0 :: r) = (true, keyC b0) by simp only [h264S]; rw [if_pos k1])
    have i1 : (1 : Int) ≤ b0.toNat % 32 := by omega
    have i2 : (b0.toNat : Int) % 32 ≤ 23 := by omega
    have HH := Lib.hid hst
    clear k1 hst
    go_wp2_with (go_at_call 39; refine (keyP b0 _).mono ?_; rintro e w' ⟨rfl, rfl⟩)
    go_returns
    exact Ret.mk hle HH.out.drop ⟨by rw [HZ.out]; rfl, rfl⟩
  by_cases k24 : b0.toNat % 32 = 24
  · have HZ := Lib.hid (show h264S (b0 :: r) = (true, unitsA r) by simp only [h264S]; rw [if_neg k1, if_pos k24])
    have e24 : (b0.toNat : Int) % 32 = 24 := by omega
    have HH := Lib.hid (And.intro hst hR)
    clear k1 hst hR k24
    go_wp2
    clear e24 e31 hk
    go_loopw [7] (fun al wr => ∃ (l : List UInt8) (a : Bool) (br : Res), l.length ≤ r.length ∧ al = .bool a ∧ Hid ((a || unitsA l) = unitsA r) ∧ Hid (St J (br :: M) wr ∧ Rdr J p (l, false) br)) (fun _ wr => lenAt wr p)
    case atStart => exact ⟨r, false, br, Nat.le_refl _, rfl, by simp [Hid], HH.out⟩
    case round =>
      obtain ⟨l, a, br, hlr, rfl, ha, hh⟩ := hrel
      obtain ⟨hst, hR⟩ := hh.out
      have HM := Lib.hid (lenAt_eq hst hR)
      clear hh
      simp only [List.length_cons] at hl
      go_wp2_with fail
      refine (rd_u16 p _ _ hst hR).mono ?_
      clear hst hR
      rintro e w3 ⟨_, J3, M3, rfl, -, hst, rfl, rfl, br, hR, rfl⟩
      by_cases hs : l.length < 2
      · have hu := unitsA_short hs
        rw [cut2_short hs] at hR ⊢
        dsimp only at hR ⊢
        rw [numL_nil]
        have HA := ha.out
        rw [hu] at HA
        have HA := Lib.hid HA
        clear ha hu
        go_wp2_with fail
        refine (rd_take p 0 _ _ hst hR (by omega) (by simp only []; omega)).mono ?_
        clear hst hR
        rintro e w4 ⟨_, J4, M4, rfl, -, hst, rfl, A4, c4, br, rfl, -, hR, rfl⟩
        rw [cut_bad] at hR hst ⊢
        have hst := hst.drop
        go_wp2_with (go_at_call 38; refine (rd_bad p _ _ hst hR).mono ?_; rintro e w' ⟨rfl, rfl⟩; try dsimp only)
        go_returns
        exact Ret.mk hle hst.drop ⟨by rw [HZ.out, ← HA.out]; simp [two], rfl⟩
      · obtain ⟨x, y, l, rfl⟩ : ∃ x y t, l = x :: y :: t := by
          rcases l with _ | ⟨x, _ | ⟨y, t⟩⟩
          · simp at hs
          · simp at hs
          · exact ⟨x, y, t, rfl⟩
        rw [cut2_long] at hR ⊢
        dsimp only at hR ⊢
        rw [num_two]
        have HA := ha.out
        rw [unitsA_cons] at HA
        have xl := x.toNat_lt
        have yl := y.toNat_lt
        have hn16 : x.toNat * 256 + y.toNat ≤ 65535 := by omega
        generalize x.toNat * 256 + y.toNat = n at *
        clear ha hs xl yl
        simp only [List.length_cons] at hlr HM
        have HA := Lib.hid HA
        go_wp2_with fail
        refine (rd_take p n _ _ hst hR (by omega) (by simp only []; omega)).mono ?_
        clear hst hR
        rintro e w4 ⟨_, J4, M4, rfl, -, hst, rfl, A4, c4, br, rfl, -, hR, rfl⟩
        by_cases hfit : n ≤ l.length
        · rw [cut_yes hfit] at hR hst ⊢
          have hst' := hst.drop
          by_cases hn0 : n = 0
          · subst hn0
            have HA := HA.out
            rw [if_pos (.inl rfl)] at HA
            have HA := Lib.hid HA
            have hl0 : (l.take 0).length = 0 := rfl
            go_wp2_with (go_at_call 38; refine (rd_bad p _ _ hst' hR).mono ?_; rintro e w' ⟨rfl, rfl⟩; try dsimp only)
            go_returns
            exact Ret.mk hle hst'.drop ⟨by rw [HZ.out, ← HA.out]; simp [two], rfl⟩
          · obtain ⟨u, t, hut⟩ : ∃ u t, l = u :: t := by
              rcases l with _ | ⟨u, t⟩
              · simp only [List.length_nil] at hfit; omega
              · exact ⟨u, t, rfl⟩
            have htl : (l.take n).length = n := by rw [List.length_take]; omega
            obtain ⟨m, rfl⟩ : ∃ m, n = m + 1 := ⟨n - 1, by omega⟩
            have htk : l.take (m + 1) = u :: t.take m := by rw [hut]; rfl
            have HA := HA.out
            rw [if_neg (by omega)] at HA
            have hget : l.getD 0 0 = u := by rw [hut]; rfl
            rw [hget] at HA
            have HA := Lib.hid HA
            rw [htl] at hst ⊢
            rw [htk] at hst
            obtain ⟨g, rfl, hz⟩ := row_first hst
            have hdl : (l.drop (m + 1)).length = l.length - (m + 1) := List.length_drop
            have HDL := Lib.hid hdl
            clear hdl hst hget hut htk htl hn0
            have hmb : ((m : Int) + 1 == 0) = false := by simp; omega
            cases a
            all_goals
              go_wp2_with (first
                | (go_at_call 38; refine (rd_bad p _ _ hst' hR).mono ?_; rintro e w' ⟨rfl, rfl⟩; try dsimp only)
                | (go_at_call 39; refine (keyP u _).mono ?_; rintro e w' ⟨rfl, rfl⟩))
              go_roundw
              case rel => exact ⟨l.drop (m + 1), _, br, by rw [HDL.out]; omega, rfl, by have := HA.out; simpa [Hid] using this, hst', hR⟩
              case measure => rw [HM.out, lenAt_eq hst' hR, HDL.out]; omega
        · have HA := HA.out
          rw [if_pos (.inr (by omega))] at HA
          have HA := Lib.hid HA
          rw [cut_no (by omega)] at hR hst ⊢
          have hst := hst.drop
          go_wp2_with (go_at_call 38; refine (rd_bad p _ _ hst hR).mono ?_; rintro e w' ⟨rfl, rfl⟩; try dsimp only)
          go_returns
          exact Ret.mk hle hst.drop ⟨by rw [HZ.out, ← HA.out]; simp [two], rfl⟩
  have k24b : ((b0.toNat : Int) % 32 == 24) = false := by simp; omega
  by_cases k28 : b0.toNat % 32 = 28
  · have e28 : (b0.toNat : Int) % 32 = 28 := by omega
    go_wp2_with fail
    refine (rd_byte p _ _ hst hR).mono ?_
    clear hst hR
    rintro e w3 ⟨_, J3, M3, rfl, -, hst, rfl, rfl, br, hR, rfl⟩
    have HH := Lib.hid hst
    clear hst hR
    rcases r with _ | ⟨b1, r⟩
    · rw [u8_nil]
      have HZ := Lib.hid (show h264S [b0] = (false, false) by simp only [h264S]; rw [if_neg k1, if_neg k24, if_pos k28])
      clear k24 k1 k28
      go_wp2
      go_returns
      exact Ret.mk hle HH.out.drop ⟨by rw [HZ.out]; rfl, rfl⟩
    · rw [u8_cons]
      have b1l := b1.toNat_lt
      have HZ := Lib.hid (show h264S (b0 :: b1 :: r) = (decide (128 ≤ b1.toNat), decide (128 ≤ b1.toNat) && b1.toNat % 32 == 5) by simp only [h264S]; rw [if_neg k1, if_neg k24, if_pos k28])
      have HK := Lib.hid (show (b1.toNat % 32 == 5) = ((b1.toNat : Int) % 32 == 5) by rw [Bool.eq_iff_iff]; simp; omega)
      have e1 := and31 b1
      have e2 := and128 b1
      clear k24 k1 k28
      cases h128 : decide ((128 : Int) ≤ b1.toNat)
      all_goals
        rw [h128] at e2
        have hN : decide (128 ≤ b1.toNat) = decide ((128 : Int) ≤ b1.toNat) := by rw [Bool.eq_iff_iff]; simp; omega
        rw [h128] at hN
        have HN := Lib.hid hN
        clear hN
        go_wp2
        go_returns
        exact Ret.mk hle HH.out.drop ⟨by rw [HZ.out, HN.out, HK.out]; rfl, rfl⟩
  · have k28b : ((b0.toNat : Int) % 32 == 28) = false := by simp; omega
    have HZ := Lib.hid (show h264S (b0 :: r) = (false, false) by simp only [h264S]; rw [if_neg k1, if_neg k24, if_neg k28])
    have HH := Lib.hid hst
    clear hst hR
    by_cases k0 : (b0.toNat : Int) % 32 < 1
    · clear k24 k1 k28
      go_wp2
      all_goals first
        | (go_returns; exact Ret.mk hle HH.out.drop ⟨by rw [HZ.out]; rfl, rfl⟩)
        | (exfalso; omega)
    · have k23 : (23 : Int) < b0.toNat % 32 := by omega
      have k2 : (1 : Int) ≤ b0.toNat % 32 := by omega
      clear k24 k1 k28 k0
      go_wp2
      all_goals first
        | (go_returns; exact Ret.mk hle HH.out.drop ⟨by rw [HZ.out]; rfl, rfl⟩)
        | (exfalso; omega)
end Go.Proofs.Ytaemohkmingnpaa
