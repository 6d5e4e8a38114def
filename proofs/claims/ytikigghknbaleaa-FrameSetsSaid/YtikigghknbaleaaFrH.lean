/- the laws' own functions. -/
import Derived.Test.YtikigghknbaleaaFrG
namespace Go.Proofs.Ytikigghknbaleaa
open Go.RowKit
set_option linter.unusedSimpArgs false

theorem lit4 : begB [144, 128, 5, 0] = true := by decide +kernel
theorem vp4 : vpR [144, 128, 5, 0] = (2, 1, 3, true) := by decide +kernel
theorem beg4 : beginsS ⟨#[86, 80, 56]⟩ [144, 128, 5, 0] = (true, true) := by
  have h : isV ⟨#[86, 80, 56]⟩ = true := by unfold isV; rw [ByteArray.toList_eq]; rfl
  simp only [beginsS, h, if_true, begS, vp4, lit4]
  decide +kernel
theorem pic4 : picS [144, 128, 5, 0] = (5, 7, true) := by simp [picS, vp4, gb]
def Yes (I : Img) (M : List Res) : Ending → World → Prop := Ret I (fun v _ M' => v = .bool true ∧ M' = M)
set_option maxHeartbeats 1000000 in
theorem awakeC (I : Img) (M : List Res) (w : World) (hst : St I M w) : Calls Try.prog 7 #[] w (Yes I M) := by
  obtain ⟨J, hle, hst1, hJ⟩ := (hst.alloc 5 #[.int .u8 144, .int .u8 128, .int .u8 5, .int .u8 0]).freezeBlk
  have hB := Byts.ofBlk (l := [144, 128, 5, 0]) hJ rfl
  have h8 := beginsP J M _ ⟨#[86, 80, 56]⟩ _ 4 _ hst1 hB (by simp)
  rw [beg4] at h8
  clear hst hst1 hB hJ
  go_enter Try.func7, Try.ntmps7
  go_wp2_with fail
  refine h8.mono ?_
  rintro e w1 ⟨_, J1, M, rfl, hle1, hst, rfl, rfl⟩
  obtain ⟨J2, hle2, hst2, hJ2⟩ := (hst.alloc 5 #[.int .u8 144, .int .u8 128, .int .u8 5, .int .u8 0]).freezeBlk
  have hB2 := Byts.ofBlk (l := [144, 128, 5, 0]) hJ2 rfl
  have h10 := picP J2 M _ _ 4 _ hst2 hB2 (by simp)
  rw [pic4] at h10
  clear hst hst2 hB2 hJ2 h8
  unfold two
  go_wp2_with fail
  refine h10.mono ?_
  rintro e w2 ⟨_, J3, M, rfl, hle3, hst, rfl, rfl⟩
  have H3 := Lib.hid hst
  clear hst h10
  unfold three
  go_wp2
  go_returns
  exact Ret.mk (((hle.trans hle1).trans hle2).trans hle3) H3.out ⟨rfl, rfl⟩

theorem begins_imp {c : ByteArray} {b : List UInt8} : (beginsS c b).2 = true → (beginsS c b).1 = true := by
  unfold beginsS begS h264S
  repeat' split
  all_goals simp
  all_goals intros; omega
set_option maxHeartbeats 2000000 in
theorem law3 (I : Img) (M : List Res) (w : World) (cd : ByteArray) (A : Option Addr) (c : Nat) (b : List UInt8) (hst : St I M w) (hb : Byts I A b) (hl : b.length ≤ 140737488351232) :
    Calls Try.prog 3 #[.string cd, .slice A b.length c] w (Yes I M) := by
  have HB := Lib.hid hb
  clear hb
  go_enter Try.func3, Try.ntmps3
  go_wp2_with fail
  refine (awakeC I M _ hst).mono ?_
  clear hst
  rintro e w1 ⟨_, J, M, rfl, hle, hst, rfl, rfl⟩
  have H1 := Lib.hid (And.intro hle hst)
  clear hst hle
  go_wp2
  go_loopw [13] (fun i wr => ∃ k : Nat, k ≤ 3 ∧ i = .int .i64 k ∧ Hid (∃ J, I.le J ∧ St J M wr)) (fun i _ => 3 - (intOf i).toNat)
  case atStart => exact ⟨0, by omega, rfl, J, H1.out.1, H1.out.2⟩
  case round =>
    obtain ⟨k, hk, rfl, hh⟩ := hrel
    obtain ⟨J, hle, hst⟩ := hh.out
    clear hh H1
    by_cases hlt : k = 3
    · subst hlt
      have H1 := Lib.hid (And.intro hle hst)
      clear hst hle
      go_wp2
      go_returns
      exact Ret.mk H1.out.1 H1.out.2 ⟨rfl, rfl⟩
    · have hst1 := (hst.alloc 9 #[.string cd, .string ⟨#[86, 80, 56]⟩, .string ⟨#[72, 50, 54, 52]⟩]).drop
      have Hst1 := Lib.hid hst1
      clear hst hst1
      have hk3 : k = 0 ∨ k = 1 ∨ k = 2 := by omega
      rcases hk3 with rfl | rfl | rfl
      all_goals
        go_wp2_with fail
        refine (beginsP J M _ _ A c b Hst1.out (HB.out.mono hle) hl).mono ?_
        clear Hst1
        rintro e w2 ⟨_, J2, M, rfl, hle2, hst, rfl, rfl⟩
        have HH := Lib.hid (And.intro (hle.trans hle2) hst)
        have h9 := fun cd => beginsR J2 M w2 cd A c b hst (HB.out.mono (hle.trans hle2)) hl
        clear hst hle2
        unfold two
        go_wp2_with fail
        refine (h9 _).mono ?_
        rintro e w3 ⟨rfl, n, rfl⟩
        unfold two
        clear h9
        generalize hp : beginsS _ b = p at *
        have hi : p.2 = true → p.1 = true := by rw [← hp]; exact begins_imp
        clear hp
        obtain ⟨x, y⟩ := p
        simp only [] at hi
        cases x <;> cases y
        · go_wp2
          go_roundw
          case rel => first | exact ⟨1, by omega, rfl, J2, HH.out.1, HH.out.2.drewN _⟩ | exact ⟨2, by omega, rfl, J2, HH.out.1, HH.out.2.drewN _⟩ | exact ⟨3, by omega, rfl, J2, HH.out.1, HH.out.2.drewN _⟩
          case measure => simp [intOf]
        · cases hi rfl
        · go_wp2
          go_roundw
          case rel => first | exact ⟨1, by omega, rfl, J2, HH.out.1, HH.out.2.drewN _⟩ | exact ⟨2, by omega, rfl, J2, HH.out.1, HH.out.2.drewN _⟩ | exact ⟨3, by omega, rfl, J2, HH.out.1, HH.out.2.drewN _⟩
          case measure => simp [intOf]
        · go_wp2
          go_roundw
          case rel => first | exact ⟨1, by omega, rfl, J2, HH.out.1, HH.out.2.drewN _⟩ | exact ⟨2, by omega, rfl, J2, HH.out.1, HH.out.2.drewN _⟩ | exact ⟨3, by omega, rfl, J2, HH.out.1, HH.out.2.drewN _⟩
          case measure => simp [intOf]
end Go.Proofs.Ytikigghknbaleaa
