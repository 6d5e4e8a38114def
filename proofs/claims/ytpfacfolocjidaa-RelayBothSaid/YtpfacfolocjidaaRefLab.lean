import Derived.Test.YtpfacfolocjidaaLab
namespace Go.Proofs.Ytpfacfolocjidaa
open Go.RowKit

theorem quiet_w {P : Program} {f : FuncId} {args : Array Value} {w : World} {v : Value} (h : Calls P f args w fun e w' => e = .returned v ∧ w = w') : Calls P f args w fun e w' => e = .returned v ∧ w' = w :=
  h.mono fun _ _ ⟨a, b⟩ => ⟨a, b.symm⟩

set_option maxHeartbeats 400000 in
theorem c35_short (A : Option Addr) (c : Nat) (d : List UInt8) (w : World) (hd : d.length < 12) :
    Calls Try.prog 35 #[.slice A d.length c] w (LabPost d w) := by
  have HP := Lib.hid (show LabPost d w (.returned (.tuple #[.string ⟨#[]⟩, .bool false])) w from ⟨_, (by rw [labS_short hd]; rfl), (fun y hy => by rw [labS_short hd] at hy; cases hy), Below.refl _ _⟩)
  have hd' : (d.length : Int) < 12 := by omega
  go_enter Try.func35, Try.ntmps35
  go_wp2
  go_ret2
  exact HP.out

set_option maxHeartbeats 1000000 in
set_option maxRecDepth 100000 in
theorem c35_long (g o c : Nat) (a0 a1 a2 a3 a4 a5 a6 a7 a8 a9 a10 a11 : UInt8) (t : List UInt8) (w : World) (hB : Byts w (some ⟨g, o, none⟩) (a0 :: a1 :: a2 :: a3 :: a4 :: a5 :: a6 :: a7 :: a8 :: a9 :: a10 :: a11 :: t)) (hl : t.length ≤ 140737488351232) (hc : t.length + 12 ≤ c) :
    Calls Try.prog 35 #[.slice (some ⟨g, o, none⟩) (t.length + 12) c] w (LabPost (a0 :: a1 :: a2 :: a3 :: a4 :: a5 :: a6 :: a7 :: a8 :: a9 :: a10 :: a11 :: t) w) := by
  obtain ⟨g', o', e, hg, hcell⟩ := hB (by simp)
  injection e with e
  injection e with e1 e2
  subst e1 e2
  have k0 : w.cell? ⟨g, o, none⟩ = some (.int .u8 a0.toNat) := hcell 0 (by simp)
  have k1 : w.cell? ⟨g, o + 1, none⟩ = some (.int .u8 a1.toNat) := hcell 1 (by simp)
  have k4 : w.cell? ⟨g, o + 4, none⟩ = some (.int .u8 a4.toNat) := hcell 4 (by simp)
  have k5 : w.cell? ⟨g, o + 5, none⟩ = some (.int .u8 a5.toNat) := hcell 5 (by simp)
  have k6 : w.cell? ⟨g, o + 6, none⟩ = some (.int .u8 a6.toNat) := hcell 6 (by simp)
  have k7 : w.cell? ⟨g, o + 7, none⟩ = some (.int .u8 a7.toNat) := hcell 7 (by simp)
  have B8 : Byts w (some ⟨g, o + 8, none⟩) [a8, a9] := by
    intro _
    refine ⟨g, o + 8, rfl, hg, fun j hj => ?_⟩
    match j, hj with
    | 0, _ => exact hcell 8 (by simp)
    | 1, _ => exact hcell 9 (by simp)
  have B10 : Byts w (some ⟨g, o + 10, none⟩) [a10, a11] := by
    intro _
    refine ⟨g, o + 10, rfl, hg, fun j hj => ?_⟩
    match j, hj with
    | 0, _ => exact hcell 10 (by simp)
    | 1, _ => exact hcell 11 (by simp)
  have BT : Byts w (some ⟨g, o + 12, none⟩) t := by
    intro h
    refine ⟨g, o + 12, rfl, hg, fun j hj => ?_⟩
    have := hcell (j + 12) (by simp; omega)
    rw [show o + (j + 12) = o + 12 + j by omega] at this
    exact this
  obtain ⟨n8, hn8⟩ : ∃ n, n = numL [a8, a9] := ⟨_, rfl⟩
  obtain ⟨n10, hn10⟩ : ∃ n, n = numL [a10, a11] := ⟨_, rfl⟩
  have b8 : (n8 : Int) ≤ 65535 := by have := numL_lt [a8, a9]; rw [← hn8] at this; simp at this; omega
  have b10 : (n10 : Int) ≤ 65535 := by have := numL_lt [a10, a11]; rw [← hn10] at this; simp at this; omega
  have hS : labS (a0 :: a1 :: a2 :: a3 :: a4 :: a5 :: a6 :: a7 :: a8 :: a9 :: a10 :: a11 :: t) = if a0 = 3 ∧ a1 = 0 ∧ a4 = 0 ∧ a5 = 0 ∧ a6 = 0 ∧ a7 = 0 ∧ n8 + n10 = t.length ∧ wordB ⟨(t.take n8).toArray⟩ 1 32 = true then some ⟨(t.take n8).toArray⟩ else none := by
    rw [hn8, hn10]; rfl
  have HS := Lib.hid hS
  clear hS
  clear hcell hB
  have q8 := fun n => quiet_w (ref_number (some ⟨g, o + 8, none⟩) (c - 8) [a8, a9] (w.drewN n) B8 (by simp))
  have q10 := fun n => quiet_w (ref_number (some ⟨g, o + 10, none⟩) (c - 10) [a10, a11] (w.drewN n) B10 (by simp))
  rw [← hn8] at q8
  rw [← hn10] at q10
  clear hn8 hn10
  have Q8 := Lib.hid q8
  have Q10 := Lib.hid q10
  have HT := Lib.hid BT
  clear q8 q10 BT B8 B10
  have h12 : (12 : Int) ≤ c := by omega
  have hno : ∀ w', Below w.heap.size w w' → (¬ (a0 = 3 ∧ a1 = 0 ∧ a4 = 0 ∧ a5 = 0 ∧ a6 = 0 ∧ a7 = 0)) → LabPost (a0 :: a1 :: a2 :: a3 :: a4 :: a5 :: a6 :: a7 :: a8 :: a9 :: a10 :: a11 :: t) w (.returned (.tuple #[.string ⟨#[]⟩, .bool false])) w' := by
    intro w' hb hn
    have : labS (a0 :: a1 :: a2 :: a3 :: a4 :: a5 :: a6 :: a7 :: a8 :: a9 :: a10 :: a11 :: t) = none := by
      rw [HS.out, if_neg]
      rintro ⟨h0, h1, h4, h5, h6, h7, _⟩
      exact hn ⟨h0, h1, h4, h5, h6, h7⟩
    exact ⟨_, (by rw [this]; rfl), (fun y hy => by rw [this] at hy; cases hy), hb⟩
  have Hno := Lib.hid hno
  clear hno
  have e0 := u8_eq a0 3 (by omega)
  have e1 := u8_eq a1 0 (by omega)
  have e4 := u8_eq a4 0 (by omega)
  have e5 := u8_eq a5 0 (by omega)
  have e6 := u8_eq a6 0 (by omega)
  have e7 := u8_eq a7 0 (by omega)
  by_cases hh : a0 = 3 ∧ a1 = 0 ∧ a4 = 0 ∧ a5 = 0 ∧ a6 = 0 ∧ a7 = 0
  · obtain ⟨rfl, rfl, rfl, rfl, rfl, rfl⟩ := hh
    clear e0 e1 e4 e5 e6 e7
    have hdn : ∀ n, Below w.heap.size w (w.drewN n) := fun n => ⟨rfl, rfl, rfl, Nat.le_refl _, fun _ _ => rfl⟩
    have Hdn := Lib.hid hdn
    clear hdn
    by_cases hs : n8 + n10 = t.length
    · have hb : ∀ n, LabPost (3 :: 0 :: a2 :: a3 :: 0 :: 0 :: 0 :: 0 :: a8 :: a9 :: a10 :: a11 :: t) w (.returned (.tuple #[.string ⟨(t.take n8).toArray⟩, .bool (wordB ⟨(t.take n8).toArray⟩ 1 32)])) (w.drewN n) := by
        intro n
        cases hw : wordB ⟨(t.take n8).toArray⟩ 1 32 with
        | false =>
          have : labS (3 :: 0 :: a2 :: a3 :: 0 :: 0 :: 0 :: 0 :: a8 :: a9 :: a10 :: a11 :: t) = none := by
            rw [HS.out, if_neg]
            rintro ⟨_, _, _, _, _, _, _, h⟩
            rw [hw] at h; cases h
          exact ⟨_, (by rw [this]; rfl), (fun y hy => by rw [this] at hy; cases hy), Hdn.out n⟩
        | true =>
          have : labS (3 :: 0 :: a2 :: a3 :: 0 :: 0 :: 0 :: 0 :: a8 :: a9 :: a10 :: a11 :: t) = some ⟨(t.take n8).toArray⟩ := by
            rw [HS.out, if_pos ⟨rfl, rfl, rfl, rfl, rfl, rfl, hs, hw⟩]
          exact ⟨_, (by rw [this]; rfl), (fun y hy => by rw [this] at hy; injection hy), Hdn.out n⟩
      have Hb := Lib.hid hb
      have hl8 : (t.take n8).length = n8 := by rw [List.length_take]; omega
      have hcv : ∀ n A, Byts (w.drewN n) A (t.take n8) → (convert 27 9 (.slice A n8 (c - 12))).run Try.prog (w.drewN n) = .ok (.string ⟨(t.take n8).toArray⟩) (w.drewN n) := by
        intro n A hA
        have := conv_bytes hA (c - 12)
        rw [hl8] at this
        exact this
      have hsz : (⟨(t.take n8).toArray⟩ : ByteArray).size ≤ maxLen := by show (t.take n8).length ≤ maxLen; unfold maxLen; omega
      have Hsz := Lib.hid hsz
      have hst : (n8 : Int) + n10 = t.length := by omega
      have hst' : ((12 : Int) + n8 + n10 != t.length + 12) = false := by simp; omega
      have hle1 : (12 : Int) + n8 ≤ c := by omega
      have hle0 : (12 : Int) ≤ 12 + n8 := by omega
      by_cases hc12 : c = 12
      · have ht : t = [] := List.eq_nil_of_length_eq_zero (by omega)
        have hn0 : n8 = 0 := by omega
        have hn1 : n10 = 0 := by omega
        subst hc12 ht hn0 hn1
        have HCV := Lib.hid (fun n => hcv n (some ⟨g, o, none⟩) (Byts.nil _ _))
        clear hcv hb hs hl8 hsz hst
        go_enter Try.func35, Try.ntmps35
        go_wp2_with fail
        go_quiet ((first | (go_at_call 44; with_reducible exact Calls.quiet_of_same (Q8.out _)) | (go_at_call 44; with_reducible exact Calls.quiet_of_same (Q10.out _))))
        have hcv := HCV.out nq
        go_wp2_with fail
        refine (c26 _ _ _ _ Hsz.out).mono ?_
        rintro e w' ⟨rfl, rfl⟩
        clear hcv
        go_wp2
        go_ret2
        exact Hb.out nq
      · have HCV := Lib.hid (fun n => hcv n (some ⟨g, o + 12, none⟩) (HT.out.take n8))
        clear hcv hb hs hl8 hsz hst
        go_enter Try.func35, Try.ntmps35
        go_wp2_with fail
        go_quiet ((first | (go_at_call 44; with_reducible exact Calls.quiet_of_same (Q8.out _)) | (go_at_call 44; with_reducible exact Calls.quiet_of_same (Q10.out _))))
        have hcv := HCV.out nq
        go_wp2_with fail
        refine (c26 _ _ _ _ Hsz.out).mono ?_
        rintro e w' ⟨rfl, rfl⟩
        clear hcv
        go_wp2
        go_ret2
        exact Hb.out nq
    · have hb : ∀ n, LabPost (3 :: 0 :: a2 :: a3 :: 0 :: 0 :: 0 :: 0 :: a8 :: a9 :: a10 :: a11 :: t) w (.returned (.tuple #[.string ⟨#[]⟩, .bool false])) (w.drewN n) := by
        intro n
        have : labS (3 :: 0 :: a2 :: a3 :: 0 :: 0 :: 0 :: 0 :: a8 :: a9 :: a10 :: a11 :: t) = none := by
          rw [HS.out, if_neg]
          rintro ⟨_, _, _, _, _, _, h, _⟩
          exact hs h
        exact ⟨_, (by rw [this]; rfl), (fun y hy => by rw [this] at hy; cases hy), Hdn.out n⟩
      have Hb := Lib.hid hb
      have hst' : ((12 : Int) + n8 + n10 != t.length + 12) = true := by simp; omega
      clear hb hs
      go_enter Try.func35, Try.ntmps35
      go_wp2_with fail
      go_quiet ((first | (go_at_call 44; with_reducible exact Calls.quiet_of_same (Q8.out _)) | (go_at_call 44; with_reducible exact Calls.quiet_of_same (Q10.out _))))
      go_wp2
      go_ret2
      exact Hb.out nq
  · have E := Lib.hid (And.intro e0 (And.intro e1 (And.intro e4 (And.intro e5 (And.intro e6 e7)))))
    have Hh := Lib.hid hh
    clear e0 e1 e4 e5 e6 e7 hh
    go_enter Try.func35, Try.ntmps35
    go_wp2_with fail
    all_goals first
      | (go_ret2
         exact Hno.out _ (Below.refl _ _) Hh.out)
      | (exfalso
         obtain ⟨e0, e1, e4, e5, e6, e7⟩ := E.out
         have h7 := ‹_ ∧ _›
         simp at h7
         exact Hh.out ⟨e0.2 (by omega), e1.2 (by omega), e4.2 (by omega), e5.2 (by omega), e6.2 (by omega), e7.2 (by omega)⟩)
theorem c35 (A : Option Addr) (c : Nat) (d : List UInt8) (w : World) (hB : Byts w A d) (hl : d.length ≤ 140737488351232) (hc : d.length ≤ c) :
    Calls Try.prog 35 #[.slice A d.length c] w (LabPost d w) := by
  by_cases h : d.length < 12
  · exact c35_short A c d w h
  · obtain ⟨g, o, rfl, _, _⟩ := hB (by omega)
    obtain ⟨a0, a1, a2, a3, a4, a5, a6, a7, a8, a9, a10, a11, t, rfl⟩ := long (by omega : 12 ≤ d.length)
    exact c35_long g o c a0 a1 a2 a3 a4 a5 a6 a7 a8 a9 a10 a11 t w hB (by simp at hl; omega) (by simpa using hc)
end Go.Proofs.Ytpfacfolocjidaa
