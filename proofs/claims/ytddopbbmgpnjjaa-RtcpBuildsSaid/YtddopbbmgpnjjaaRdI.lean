/- rostrumref13.Build. -/
import Derived.Test.YtddopbbmgpnjjaaRdH4
import Derived.Test.YtddopbbmgpnjjaaRdH8
namespace Go.Proofs.Ytddopbbmgpnjjaa
open Go.RowKit
set_option linter.unusedSimpArgs false

set_option maxRecDepth 10000 in
set_option maxHeartbeats 4000000 in
theorem buildP (I : Img) (M : List Res) (w : World) (kind : Int) (sender : Int) (media : Int) (ntp : Int) (rtp : Int) (pkts : Int) (octs : Int) (base : Int) (ref : Int) (count : Int) (name : ByteArray) (reps : List Rp) (srcs seqs arrs : List Int) (wants : List Wn) (rA : Option Addr) (rz : Nat) (sA : Option Addr) (sz : Nat) (qA : Option Addr) (qz : Nat) (aA : Option Addr) (az : Nat) (wA : Option Addr) (wz : Nat) (cr : Cells I rA (flat repC reps)) (cs : Cells I sA (flat u32C srcs)) (cq : Cells I qA (flat u16C seqs)) (ca : Cells I aA (flat intC arrs)) (cw : Cells I wA (flat wnC wants)) (hok : PkOk (⟨kind, sender, media, ntp, rtp, pkts, octs, reps, name, srcs, seqs, base, ref, count, arrs, wants⟩ : Pk)) (hg : Good (⟨kind, sender, media, ntp, rtp, pkts, octs, reps, name, srcs, seqs, base, ref, count, arrs, wants⟩ : Pk)) (hst : St I M w) :
    Calls Try.prog 18 #[.agg #[.int .i64 kind, .int .u32 sender, .int .u32 media, .int .u64 ntp, .int .u32 rtp, .int .u32 pkts, .int .u32 octs, .slice rA reps.length rz, .string name, .slice sA srcs.length sz, .slice qA seqs.length qz, .int .u16 base, .int .u32 ref, .int .u8 count, .slice aA arrs.length az, .slice wA wants.length wz]] w (Bui I M (⟨kind, sender, media, ntp, rtp, pkts, octs, reps, name, srcs, seqs, base, ref, count, arrs, wants⟩ : Pk)) := by
  have hk : kind = 1 ∨ kind = 2 ∨ kind = 3 ∨ kind = 4 ∨ kind = 5 ∨ kind = 6 ∨ kind = 7 ∨ kind = 8 := by
    rcases hg.1 with ⟨h | h, _⟩ | ⟨h, _⟩ | ⟨h, _⟩ | ⟨h, _⟩ | ⟨h, _⟩ | h | ⟨h, _⟩ <;> simp only [] at h <;> simp [h]
  rcases hk with rfl | rfl | rfl | rfl | rfl | rfl | rfl | rfl
  · exact build1 I M w sender media ntp rtp pkts octs base ref count name reps srcs seqs arrs wants rA rz sA sz qA qz aA az wA wz cr cs cq ca cw hok hg hst
  · exact build2 I M w sender media ntp rtp pkts octs base ref count name reps srcs seqs arrs wants rA rz sA sz qA qz aA az wA wz cr cs cq ca cw hok hg hst
  · exact build3 I M w sender media ntp rtp pkts octs base ref count name reps srcs seqs arrs wants rA rz sA sz qA qz aA az wA wz cr cs cq ca cw hok hg hst
  · exact build4 I M w sender media ntp rtp pkts octs base ref count name reps srcs seqs arrs wants rA rz sA sz qA qz aA az wA wz cr cs cq ca cw hok hg hst
  · exact build5 I M w sender media ntp rtp pkts octs base ref count name reps srcs seqs arrs wants rA rz sA sz qA qz aA az wA wz cr cs cq ca cw hok hg hst
  · exact build6 I M w sender media ntp rtp pkts octs base ref count name reps srcs seqs arrs wants rA rz sA sz qA qz aA az wA wz cr cs cq ca cw hok hg hst
  · exact build7 I M w sender media ntp rtp pkts octs base ref count name reps srcs seqs arrs wants rA rz sA sz qA qz aA az wA wz cr cs cq ca cw hok hg hst
  · exact build8 I M w sender media ntp rtp pkts octs base ref count name reps srcs seqs arrs wants rA rz sA sz qA qz aA az wA wz cr cs cq ca cw hok hg hst
set_option maxRecDepth 100000 in
set_option maxHeartbeats 20000000 in
theorem refBuildC (I : Img) (M : List Res) (w : World) (A : Option Addr) (z : Nat) (ps : List (Pk × Vs)) (hp : Pks I A ps) (hst : St I M w) :
    Calls Try.prog 10 #[.slice A ps.length z] w (Ret I (fun v _ M' => BuiltAs M (pks ps) v M')) := by
  have HP := Lib.hid hp
  have HS0 := Lib.hid hst
  have hmost := hp.most
  clear hp hst
  by_cases hlen0 : 1 ≤ ps.length
  case neg =>
    have hl1 : (ps.length : Int) < 1 := by omega
    go_enter Try.func10, Try.ntmps10
    go_wp2
    go_returns
    exact Ret.mk (.refl I) HS0.out (.inr ⟨Built.no_len (by simp [pks]; omega), rfl, rfl⟩)
  have hl1 : ¬ (ps.length : Int) < 1 := by omega
  by_cases hlen : ps.length ≤ 8
  case neg =>
    have hl2 : (8 : Int) < (ps.length : Int) := by omega
    go_enter Try.func10, Try.ntmps10
    go_wp2
    go_returns
    exact Ret.mk (.refl I) HS0.out (.inr ⟨Built.no_len (by simp [pks]; omega), rfl, rfl⟩)
  have hl2 : ¬ (8 : Int) < (ps.length : Int) := by omega
  obtain ⟨g, o, rfl, hcell⟩ := flat_get (s := 16) (fun _ => rfl) HP.out.cells (by omega) (by decide)
  obtain ⟨x0, r0, hx0⟩ : ∃ x r, ps = x :: r := by
    cases ps with
    | nil => simp at hlen0
    | cons x r => exact ⟨x, r, rfl⟩
  have z0 : w.cell? ⟨g, o, none⟩ = some (.int .i64 x0.1.kind) := by
    have := hcell _ _ HS0.out 0 (by omega) 0 (by decide)
    subst hx0
    simpa using this
  have HC := Lib.hid hcell
  have HX0 := Lib.hid hx0
  clear hcell hx0
  obtain ⟨kd, hkd⟩ : ∃ kd, kd = x0.1.kind := ⟨_, rfl⟩
  rw [← hkd] at z0
  by_cases hk : kd = 1 ∨ kd = 2
  case neg =>
    have hk1 : (kd != 1) = true := by rw [bne_iff_ne]; omega
    have hk2 : (kd != 2) = true := by rw [bne_iff_ne]; omega
    have hk3 : (kd == 1) = false := by rw [beq_eq_false_iff_ne]; omega
    have hk4 : (kd == 2) = false := by rw [beq_eq_false_iff_ne]; omega
    have hk5 : kd ≠ 1 := by omega
    have hk6 : kd ≠ 2 := by omega
    have HKD := Lib.hid (show ¬ (x0.1.kind = 1 ∨ x0.1.kind = 2) by rw [← hkd]; exact hk)
    clear hkd hk
    go_enter Try.func10, Try.ntmps10
    go_wp2
    go_returns
    exact Ret.mk (.refl I) HS0.out (.inr ⟨by rw [HX0.out]; exact Built.no_head HKD.out, rfl, rfl⟩)
  have HKK := Lib.hid (show x0.1.kind = 1 ∨ x0.1.kind = 2 by rw [← hkd]; exact hk)
  have hs : St I (row 5 1 (.slice none 0 0) ([] : List UInt8).length (bvs []) :: M) w := HS0.out.nil
  have HS := Lib.hid hs
  clear hs HS0 hkd
  go_enter Try.func10, Try.ntmps10
  rcases hk with rfl | rfl
  · skip
    go_upto_region 5 with fail
    clear z0
    go_loopw [4, 30] (fun ov iv wr => ∃ (A : Option Addr) (n c i : Nat), ov = .slice A n c ∧ iv = .int .i64 i ∧ i ≤ ps.length ∧ n ≤ 24080 ∧ Hid ((∀ p ∈ (pks ps).take i, Good p) ∧ ∃ J, I.le J ∧ n = (((pks ps).take i).flatMap packB).length ∧ St J (row 5 1 (.slice A n c) n (bvs (((pks ps).take i).flatMap packB)) :: M) wr)) (fun _ iv _ => ps.length - (intOf iv).toNat)
    case atStart => exact ⟨none, 0, 0, 0, rfl, rfl, by omega, by omega, Lib.hid ⟨fun p hp => by simp at hp, I, .refl I, rfl, HS.out⟩⟩
    case round =>
      obtain ⟨A1, n, c1, i, rfl, rfl, hi, hn, hh⟩ := hrel
      clear HS
      obtain ⟨hall, J, hle, hne, hs⟩ := hh.out
      clear hh
      have hpl : (pks ps).length = ps.length := List.length_map ..
      by_cases hlt : i < ps.length
      · skip
        have hcl := fun (M' : List Res) (w' : World) (h : St J M' w') => HC.out _ _ (h.less hle) i hlt
        have hme := (HP.out.mono hle).each _ (List.getElem_mem hlt)
        have htk : (pks ps).take (i + 1) = (pks ps).take i ++ [ps[i].1] := by rw [List.take_succ_eq_append_getElem (by omega)]; simp [pks]
        have hmem : ps[i].1 ∈ pks ps := List.mem_map_of_mem (List.getElem_mem hlt)
        generalize ps[i] = x at hcl hme htk hmem
        obtain ⟨⟨kind, sender, media, ntp, rtp, pkts, octs, reps, name, srcs, seqs, base, ref, count, arrs, wants⟩, ⟨vr, vs, vq, va, vw⟩⟩ := x
        obtain ⟨⟨hr, hs', hq, ha, hw⟩, hraw⟩ := hme
        dsimp only at hr hs' hq ha hw hraw htk hmem
        obtain ⟨rA, rz, rfl, cr, -⟩ := hr
        obtain ⟨sA, sz, rfl, cs, -⟩ := hs'
        obtain ⟨qA, qz, rfl, cq, -⟩ := hq
        obtain ⟨aA, az, rfl, ca, -⟩ := ha
        obtain ⟨wA, wz, rfl, cw, -⟩ := hw
        have HCLL := Lib.hid hcl
        have y0 : wr.cell? ⟨g, o + i * 16, none⟩ = some (.int .i64 kind) := HCLL.out _ _ hs 0 (by decide)
        have y1 : wr.cell? ⟨g, o + i * 16 + 1, none⟩ = some (.int .u32 sender) := HCLL.out _ _ hs 1 (by decide)
        have y2 : wr.cell? ⟨g, o + i * 16 + 2, none⟩ = some (.int .u32 media) := HCLL.out _ _ hs 2 (by decide)
        have y3 : wr.cell? ⟨g, o + i * 16 + 3, none⟩ = some (.int .u64 ntp) := HCLL.out _ _ hs 3 (by decide)
        have y4 : wr.cell? ⟨g, o + i * 16 + 4, none⟩ = some (.int .u32 rtp) := HCLL.out _ _ hs 4 (by decide)
        have y5 : wr.cell? ⟨g, o + i * 16 + 5, none⟩ = some (.int .u32 pkts) := HCLL.out _ _ hs 5 (by decide)
        have y6 : wr.cell? ⟨g, o + i * 16 + 6, none⟩ = some (.int .u32 octs) := HCLL.out _ _ hs 6 (by decide)
        have y7 : wr.cell? ⟨g, o + i * 16 + 7, none⟩ = some (.slice rA reps.length rz) := HCLL.out _ _ hs 7 (by decide)
        have y8 : wr.cell? ⟨g, o + i * 16 + 8, none⟩ = some (.string name) := HCLL.out _ _ hs 8 (by decide)
        have y9 : wr.cell? ⟨g, o + i * 16 + 9, none⟩ = some (.slice sA srcs.length sz) := HCLL.out _ _ hs 9 (by decide)
        have y10 : wr.cell? ⟨g, o + i * 16 + 10, none⟩ = some (.slice qA seqs.length qz) := HCLL.out _ _ hs 10 (by decide)
        have y11 : wr.cell? ⟨g, o + i * 16 + 11, none⟩ = some (.int .u16 base) := HCLL.out _ _ hs 11 (by decide)
        have y12 : wr.cell? ⟨g, o + i * 16 + 12, none⟩ = some (.int .u32 ref) := HCLL.out _ _ hs 12 (by decide)
        have y13 : wr.cell? ⟨g, o + i * 16 + 13, none⟩ = some (.int .u8 count) := HCLL.out _ _ hs 13 (by decide)
        have y14 : wr.cell? ⟨g, o + i * 16 + 14, none⟩ = some (.slice aA arrs.length az) := HCLL.out _ _ hs 14 (by decide)
        have y15 : wr.cell? ⟨g, o + i * 16 + 15, none⟩ = some (.slice wA wants.length wz) := HCLL.out _ _ hs 15 (by decide)
        have HG := Lib.hid (goodR J _ _ kind sender media ntp rtp pkts octs base ref count name reps srcs seqs arrs wants rA rz sA sz qA qz aA az wA wz cr hraw.lr (fun x hx => (hraw.reps x hx).total) cq hraw.lq ca hraw.la hraw.ln cs hraw.ls cw hraw.lw hraw.ref hs)
        have HR := Lib.hid (And.intro hraw (And.intro htk (And.intro hmem hall)))
        have HCC := Lib.hid (And.intro cr (And.intro cs (And.intro cq (And.intro ca cw))))
        have HLE := Lib.hid hle
        have HNE := Lib.hid hne
        clear hs hraw htk hmem hall cr cs cq ca cw hle hcl hne
        go_wp2_with fail
        go_at_call 17
        refine HG.out.mono ?_
        clear HG y0 y1 y2 y3 y4 y5 y6 y7 y8 y9 y10 y11 y12 y13 y14 y15
        rintro e w2 ⟨_, _, _, rfl, _, hs, rfl, rfl, rfl⟩
        have y0 : w2.cell? ⟨g, o + i * 16, none⟩ = some (.int .i64 kind) := HCLL.out _ _ hs 0 (by decide)
        have y1 : w2.cell? ⟨g, o + i * 16 + 1, none⟩ = some (.int .u32 sender) := HCLL.out _ _ hs 1 (by decide)
        have y2 : w2.cell? ⟨g, o + i * 16 + 2, none⟩ = some (.int .u32 media) := HCLL.out _ _ hs 2 (by decide)
        have y3 : w2.cell? ⟨g, o + i * 16 + 3, none⟩ = some (.int .u64 ntp) := HCLL.out _ _ hs 3 (by decide)
        have y4 : w2.cell? ⟨g, o + i * 16 + 4, none⟩ = some (.int .u32 rtp) := HCLL.out _ _ hs 4 (by decide)
        have y5 : w2.cell? ⟨g, o + i * 16 + 5, none⟩ = some (.int .u32 pkts) := HCLL.out _ _ hs 5 (by decide)
        have y6 : w2.cell? ⟨g, o + i * 16 + 6, none⟩ = some (.int .u32 octs) := HCLL.out _ _ hs 6 (by decide)
        have y7 : w2.cell? ⟨g, o + i * 16 + 7, none⟩ = some (.slice rA reps.length rz) := HCLL.out _ _ hs 7 (by decide)
        have y8 : w2.cell? ⟨g, o + i * 16 + 8, none⟩ = some (.string name) := HCLL.out _ _ hs 8 (by decide)
        have y9 : w2.cell? ⟨g, o + i * 16 + 9, none⟩ = some (.slice sA srcs.length sz) := HCLL.out _ _ hs 9 (by decide)
        have y10 : w2.cell? ⟨g, o + i * 16 + 10, none⟩ = some (.slice qA seqs.length qz) := HCLL.out _ _ hs 10 (by decide)
        have y11 : w2.cell? ⟨g, o + i * 16 + 11, none⟩ = some (.int .u16 base) := HCLL.out _ _ hs 11 (by decide)
        have y12 : w2.cell? ⟨g, o + i * 16 + 12, none⟩ = some (.int .u32 ref) := HCLL.out _ _ hs 12 (by decide)
        have y13 : w2.cell? ⟨g, o + i * 16 + 13, none⟩ = some (.int .u8 count) := HCLL.out _ _ hs 13 (by decide)
        have y14 : w2.cell? ⟨g, o + i * 16 + 14, none⟩ = some (.slice aA arrs.length az) := HCLL.out _ _ hs 14 (by decide)
        have y15 : w2.cell? ⟨g, o + i * 16 + 15, none⟩ = some (.slice wA wants.length wz) := HCLL.out _ _ hs 15 (by decide)
        by_cases hg : Good (⟨kind, sender, media, ntp, rtp, pkts, octs, reps, name, srcs, seqs, base, ref, count, arrs, wants⟩ : Pk)
        · skip
          rw [goodB_yes hg]
          have HC2 := Lib.hid (buildP J _ w2 kind sender media ntp rtp pkts octs base ref count name reps srcs seqs arrs wants rA rz sA sz qA qz aA az wA wz HCC.out.1 HCC.out.2.1 HCC.out.2.2.1 HCC.out.2.2.2.1 HCC.out.2.2.2.2 (HR.out.1.ok hg) hg hs)
          have HGG := Lib.hid hg
          have HPL := Lib.hid (pack_len hg)
          clear hs hg
          go_wp2_with fail
          go_at_call 18
          refine HC2.out.mono ?_
          clear HC2 y0 y1 y2 y3 y4 y5 y6 y7 y8 y9 y10 y11 y12 y13 y14 y15
          rintro e w3 ⟨_, J2, _, rfl, hle2, hs, A2, c2, rfl, rfl⟩
          obtain ⟨pbs, hpb⟩ : ∃ z, z = packB (⟨kind, sender, media, ntp, rtp, pkts, octs, reps, name, srcs, seqs, base, ref, count, arrs, wants⟩ : Pk) := ⟨_, rfl⟩
          rw [← hpb] at hs ⊢
          obtain ⟨J3, hle3, hs3, hb3⟩ := hs.freezeRow
          have HB := Lib.hid (show RoB pbs (.slice A2 pbs.length c2) J3 from ⟨A2, c2, rfl, hb3⟩)
          obtain ⟨bl, hbe⟩ : ∃ z, z = ((pks ps).take i).flatMap packB := ⟨_, rfl⟩
          have hbn : bl.length = n := by rw [hbe]; exact HNE.out.symm
          rw [← hbe, ← hbn] at hs3
          have HS3 := Lib.hid hs3
          have HBE := Lib.hid (And.intro hbe (And.intro hbn hpb))
          have HLE3 := Lib.hid ((HLE.out.trans hle2).trans hle3)
          clear hs hle2 hle3 hs3 hb3 hbe hbn hpb
          go_wp2_with (at_builtin; refine wpList_appB rfl _ _ rfl J3 _ _ _ _ _ (by rw [HBE.out.2.1]; rfl) rfl HS3.out HB.out (by have h1 := HPL.out.2; rw [← HBE.out.2.2] at h1; have h2 := HBE.out.2.1; omega) ?_)
          intro v4 w4 hs4
          obtain ⟨A5, c5, rfl⟩ := own_form (show World.ownsRow _ 0 5 1 v4 _ _ from St.at hs4 0 rfl)
          obtain ⟨n5, hn5⟩ : ∃ n5, n5 = (bl ++ pbs).length := ⟨_, rfl⟩
          have hs5 := show St J3 _ w4 from hs4
          rw [← hn5] at hs5 ⊢
          have HFM := Lib.hid (show ((pks ps).take (i + 1)).flatMap packB = bl ++ pbs by rw [HR.out.2.1, List.flatMap_append, List.flatMap_singleton, HBE.out.1, HBE.out.2.2])
          have HAL := Lib.hid (show ∀ p ∈ (pks ps).take (i + 1), Good p by
            rw [HR.out.2.1]
            intro p hp
            rcases List.mem_append.1 hp with hp | hp
            · exact HR.out.2.2.2 p hp
            · rw [List.mem_singleton.1 hp]; exact HGG.out)
          have hn6 : n5 ≤ 24080 := by
            rw [hn5, ← HFM.out]
            exact packs_len (n := 8) (by rw [List.length_take]; omega) HAL.out
          have HN5 := Lib.hid hn5
          have HS5 := Lib.hid hs5
          clear hs4 hs5 HS3 HB hn5
          go_wp2
          go_roundw
          case rel => exact ⟨A5, n5, c5, i + 1, rfl, by go_num, by omega, hn6, Lib.hid ⟨HAL.out, J3, HLE3.out, by rw [HFM.out]; exact HN5.out, by rw [HFM.out]; exact HS5.out⟩⟩
          case measure => simp [intOf]; omega
        · skip
          rw [goodB_no hg]
          have HF := Lib.hid (Ret.mk (Q := fun v _ M' => BuiltAs M (pks ps) v M') HLE.out (hs.drop) (show BuiltAs M (pks ps) _ _ from .inr ⟨Built.no_good HR.out.2.2.1 hg, rfl, rfl⟩))
          clear hs hg
          go_wp2
          go_returns
          exact HF.out
      · skip
        have hin : i = ps.length := by omega
        rw [List.take_of_length_le (by omega)] at hs hall hne
        subst hin
        obtain ⟨bl, hbe⟩ : ∃ z, z = (pks ps).flatMap packB := ⟨_, rfl⟩
        rw [← hbe] at hs hne
        by_cases hm : n ≤ 1500
        · have HF := Lib.hid (Ret.mk (Q := fun v _ M' => BuiltAs M (pks ps) v M') hle hs (show BuiltAs M (pks ps) _ _ from .inl ⟨⟨⟨by omega, by omega⟩, ⟨x0.1, pks r0, by rw [HX0.out]; rfl, HKK.out⟩, hall, by rw [← hbe, ← hne]; exact hm⟩, _, rfl, by rw [← hbe, ← hne]⟩))
          clear hs hbe hne hall
          go_wp2
          go_returns
          exact HF.out
        · have HF := Lib.hid (Ret.mk (Q := fun v _ M' => BuiltAs M (pks ps) v M') hle hs.drop (show BuiltAs M (pks ps) _ _ from .inr ⟨Built.no_most (by rw [← hbe, ← hne]; exact hm), rfl, rfl⟩))
          have hm2 : (1500 : Int) < (n : Int) := by omega
          clear hs hbe hne hall
          go_wp2
          go_returns
          exact HF.out
  · skip
    go_upto_region 5 with fail
    clear z0
    go_loopw [4, 30] (fun ov iv wr => ∃ (A : Option Addr) (n c i : Nat), ov = .slice A n c ∧ iv = .int .i64 i ∧ i ≤ ps.length ∧ n ≤ 24080 ∧ Hid ((∀ p ∈ (pks ps).take i, Good p) ∧ ∃ J, I.le J ∧ n = (((pks ps).take i).flatMap packB).length ∧ St J (row 5 1 (.slice A n c) n (bvs (((pks ps).take i).flatMap packB)) :: M) wr)) (fun _ iv _ => ps.length - (intOf iv).toNat)
    case atStart => exact ⟨none, 0, 0, 0, rfl, rfl, by omega, by omega, Lib.hid ⟨fun p hp => by simp at hp, I, .refl I, rfl, HS.out⟩⟩
    case round =>
      obtain ⟨A1, n, c1, i, rfl, rfl, hi, hn, hh⟩ := hrel
      clear HS
      obtain ⟨hall, J, hle, hne, hs⟩ := hh.out
      clear hh
      have hpl : (pks ps).length = ps.length := List.length_map ..
      by_cases hlt : i < ps.length
      · skip
        have hcl := fun (M' : List Res) (w' : World) (h : St J M' w') => HC.out _ _ (h.less hle) i hlt
        have hme := (HP.out.mono hle).each _ (List.getElem_mem hlt)
        have htk : (pks ps).take (i + 1) = (pks ps).take i ++ [ps[i].1] := by rw [List.take_succ_eq_append_getElem (by omega)]; simp [pks]
        have hmem : ps[i].1 ∈ pks ps := List.mem_map_of_mem (List.getElem_mem hlt)
        generalize ps[i] = x at hcl hme htk hmem
        obtain ⟨⟨kind, sender, media, ntp, rtp, pkts, octs, reps, name, srcs, seqs, base, ref, count, arrs, wants⟩, ⟨vr, vs, vq, va, vw⟩⟩ := x
        obtain ⟨⟨hr, hs', hq, ha, hw⟩, hraw⟩ := hme
        dsimp only at hr hs' hq ha hw hraw htk hmem
        obtain ⟨rA, rz, rfl, cr, -⟩ := hr
        obtain ⟨sA, sz, rfl, cs, -⟩ := hs'
        obtain ⟨qA, qz, rfl, cq, -⟩ := hq
        obtain ⟨aA, az, rfl, ca, -⟩ := ha
        obtain ⟨wA, wz, rfl, cw, -⟩ := hw
        have HCLL := Lib.hid hcl
        have y0 : wr.cell? ⟨g, o + i * 16, none⟩ = some (.int .i64 kind) := HCLL.out _ _ hs 0 (by decide)
        have y1 : wr.cell? ⟨g, o + i * 16 + 1, none⟩ = some (.int .u32 sender) := HCLL.out _ _ hs 1 (by decide)
        have y2 : wr.cell? ⟨g, o + i * 16 + 2, none⟩ = some (.int .u32 media) := HCLL.out _ _ hs 2 (by decide)
        have y3 : wr.cell? ⟨g, o + i * 16 + 3, none⟩ = some (.int .u64 ntp) := HCLL.out _ _ hs 3 (by decide)
        have y4 : wr.cell? ⟨g, o + i * 16 + 4, none⟩ = some (.int .u32 rtp) := HCLL.out _ _ hs 4 (by decide)
        have y5 : wr.cell? ⟨g, o + i * 16 + 5, none⟩ = some (.int .u32 pkts) := HCLL.out _ _ hs 5 (by decide)
        have y6 : wr.cell? ⟨g, o + i * 16 + 6, none⟩ = some (.int .u32 octs) := HCLL.out _ _ hs 6 (by decide)
        have y7 : wr.cell? ⟨g, o + i * 16 + 7, none⟩ = some (.slice rA reps.length rz) := HCLL.out _ _ hs 7 (by decide)
        have y8 : wr.cell? ⟨g, o + i * 16 + 8, none⟩ = some (.string name) := HCLL.out _ _ hs 8 (by decide)
        have y9 : wr.cell? ⟨g, o + i * 16 + 9, none⟩ = some (.slice sA srcs.length sz) := HCLL.out _ _ hs 9 (by decide)
        have y10 : wr.cell? ⟨g, o + i * 16 + 10, none⟩ = some (.slice qA seqs.length qz) := HCLL.out _ _ hs 10 (by decide)
        have y11 : wr.cell? ⟨g, o + i * 16 + 11, none⟩ = some (.int .u16 base) := HCLL.out _ _ hs 11 (by decide)
        have y12 : wr.cell? ⟨g, o + i * 16 + 12, none⟩ = some (.int .u32 ref) := HCLL.out _ _ hs 12 (by decide)
        have y13 : wr.cell? ⟨g, o + i * 16 + 13, none⟩ = some (.int .u8 count) := HCLL.out _ _ hs 13 (by decide)
        have y14 : wr.cell? ⟨g, o + i * 16 + 14, none⟩ = some (.slice aA arrs.length az) := HCLL.out _ _ hs 14 (by decide)
        have y15 : wr.cell? ⟨g, o + i * 16 + 15, none⟩ = some (.slice wA wants.length wz) := HCLL.out _ _ hs 15 (by decide)
        have HG := Lib.hid (goodR J _ _ kind sender media ntp rtp pkts octs base ref count name reps srcs seqs arrs wants rA rz sA sz qA qz aA az wA wz cr hraw.lr (fun x hx => (hraw.reps x hx).total) cq hraw.lq ca hraw.la hraw.ln cs hraw.ls cw hraw.lw hraw.ref hs)
        have HR := Lib.hid (And.intro hraw (And.intro htk (And.intro hmem hall)))
        have HCC := Lib.hid (And.intro cr (And.intro cs (And.intro cq (And.intro ca cw))))
        have HLE := Lib.hid hle
        have HNE := Lib.hid hne
        clear hs hraw htk hmem hall cr cs cq ca cw hle hcl hne
        go_wp2_with fail
        go_at_call 17
        refine HG.out.mono ?_
        clear HG y0 y1 y2 y3 y4 y5 y6 y7 y8 y9 y10 y11 y12 y13 y14 y15
        rintro e w2 ⟨_, _, _, rfl, _, hs, rfl, rfl, rfl⟩
        have y0 : w2.cell? ⟨g, o + i * 16, none⟩ = some (.int .i64 kind) := HCLL.out _ _ hs 0 (by decide)
        have y1 : w2.cell? ⟨g, o + i * 16 + 1, none⟩ = some (.int .u32 sender) := HCLL.out _ _ hs 1 (by decide)
        have y2 : w2.cell? ⟨g, o + i * 16 + 2, none⟩ = some (.int .u32 media) := HCLL.out _ _ hs 2 (by decide)
        have y3 : w2.cell? ⟨g, o + i * 16 + 3, none⟩ = some (.int .u64 ntp) := HCLL.out _ _ hs 3 (by decide)
        have y4 : w2.cell? ⟨g, o + i * 16 + 4, none⟩ = some (.int .u32 rtp) := HCLL.out _ _ hs 4 (by decide)
        have y5 : w2.cell? ⟨g, o + i * 16 + 5, none⟩ = some (.int .u32 pkts) := HCLL.out _ _ hs 5 (by decide)
        have y6 : w2.cell? ⟨g, o + i * 16 + 6, none⟩ = some (.int .u32 octs) := HCLL.out _ _ hs 6 (by decide)
        have y7 : w2.cell? ⟨g, o + i * 16 + 7, none⟩ = some (.slice rA reps.length rz) := HCLL.out _ _ hs 7 (by decide)
        have y8 : w2.cell? ⟨g, o + i * 16 + 8, none⟩ = some (.string name) := HCLL.out _ _ hs 8 (by decide)
        have y9 : w2.cell? ⟨g, o + i * 16 + 9, none⟩ = some (.slice sA srcs.length sz) := HCLL.out _ _ hs 9 (by decide)
        have y10 : w2.cell? ⟨g, o + i * 16 + 10, none⟩ = some (.slice qA seqs.length qz) := HCLL.out _ _ hs 10 (by decide)
        have y11 : w2.cell? ⟨g, o + i * 16 + 11, none⟩ = some (.int .u16 base) := HCLL.out _ _ hs 11 (by decide)
        have y12 : w2.cell? ⟨g, o + i * 16 + 12, none⟩ = some (.int .u32 ref) := HCLL.out _ _ hs 12 (by decide)
        have y13 : w2.cell? ⟨g, o + i * 16 + 13, none⟩ = some (.int .u8 count) := HCLL.out _ _ hs 13 (by decide)
        have y14 : w2.cell? ⟨g, o + i * 16 + 14, none⟩ = some (.slice aA arrs.length az) := HCLL.out _ _ hs 14 (by decide)
        have y15 : w2.cell? ⟨g, o + i * 16 + 15, none⟩ = some (.slice wA wants.length wz) := HCLL.out _ _ hs 15 (by decide)
        by_cases hg : Good (⟨kind, sender, media, ntp, rtp, pkts, octs, reps, name, srcs, seqs, base, ref, count, arrs, wants⟩ : Pk)
        · skip
          rw [goodB_yes hg]
          have HC2 := Lib.hid (buildP J _ w2 kind sender media ntp rtp pkts octs base ref count name reps srcs seqs arrs wants rA rz sA sz qA qz aA az wA wz HCC.out.1 HCC.out.2.1 HCC.out.2.2.1 HCC.out.2.2.2.1 HCC.out.2.2.2.2 (HR.out.1.ok hg) hg hs)
          have HGG := Lib.hid hg
          have HPL := Lib.hid (pack_len hg)
          clear hs hg
          go_wp2_with fail
          go_at_call 18
          refine HC2.out.mono ?_
          clear HC2 y0 y1 y2 y3 y4 y5 y6 y7 y8 y9 y10 y11 y12 y13 y14 y15
          rintro e w3 ⟨_, J2, _, rfl, hle2, hs, A2, c2, rfl, rfl⟩
          obtain ⟨pbs, hpb⟩ : ∃ z, z = packB (⟨kind, sender, media, ntp, rtp, pkts, octs, reps, name, srcs, seqs, base, ref, count, arrs, wants⟩ : Pk) := ⟨_, rfl⟩
          rw [← hpb] at hs ⊢
          obtain ⟨J3, hle3, hs3, hb3⟩ := hs.freezeRow
          have HB := Lib.hid (show RoB pbs (.slice A2 pbs.length c2) J3 from ⟨A2, c2, rfl, hb3⟩)
          obtain ⟨bl, hbe⟩ : ∃ z, z = ((pks ps).take i).flatMap packB := ⟨_, rfl⟩
          have hbn : bl.length = n := by rw [hbe]; exact HNE.out.symm
          rw [← hbe, ← hbn] at hs3
          have HS3 := Lib.hid hs3
          have HBE := Lib.hid (And.intro hbe (And.intro hbn hpb))
          have HLE3 := Lib.hid ((HLE.out.trans hle2).trans hle3)
          clear hs hle2 hle3 hs3 hb3 hbe hbn hpb
          go_wp2_with (at_builtin; refine wpList_appB rfl _ _ rfl J3 _ _ _ _ _ (by rw [HBE.out.2.1]; rfl) rfl HS3.out HB.out (by have h1 := HPL.out.2; rw [← HBE.out.2.2] at h1; have h2 := HBE.out.2.1; omega) ?_)
          intro v4 w4 hs4
          obtain ⟨A5, c5, rfl⟩ := own_form (show World.ownsRow _ 0 5 1 v4 _ _ from St.at hs4 0 rfl)
          obtain ⟨n5, hn5⟩ : ∃ n5, n5 = (bl ++ pbs).length := ⟨_, rfl⟩
          have hs5 := show St J3 _ w4 from hs4
          rw [← hn5] at hs5 ⊢
          have HFM := Lib.hid (show ((pks ps).take (i + 1)).flatMap packB = bl ++ pbs by rw [HR.out.2.1, List.flatMap_append, List.flatMap_singleton, HBE.out.1, HBE.out.2.2])
          have HAL := Lib.hid (show ∀ p ∈ (pks ps).take (i + 1), Good p by
            rw [HR.out.2.1]
            intro p hp
            rcases List.mem_append.1 hp with hp | hp
            · exact HR.out.2.2.2 p hp
            · rw [List.mem_singleton.1 hp]; exact HGG.out)
          have hn6 : n5 ≤ 24080 := by
            rw [hn5, ← HFM.out]
            exact packs_len (n := 8) (by rw [List.length_take]; omega) HAL.out
          have HN5 := Lib.hid hn5
          have HS5 := Lib.hid hs5
          clear hs4 hs5 HS3 HB hn5
          go_wp2
          go_roundw
          case rel => exact ⟨A5, n5, c5, i + 1, rfl, by go_num, by omega, hn6, Lib.hid ⟨HAL.out, J3, HLE3.out, by rw [HFM.out]; exact HN5.out, by rw [HFM.out]; exact HS5.out⟩⟩
          case measure => simp [intOf]; omega
        · skip
          rw [goodB_no hg]
          have HF := Lib.hid (Ret.mk (Q := fun v _ M' => BuiltAs M (pks ps) v M') HLE.out (hs.drop) (show BuiltAs M (pks ps) _ _ from .inr ⟨Built.no_good HR.out.2.2.1 hg, rfl, rfl⟩))
          clear hs hg
          go_wp2
          go_returns
          exact HF.out
      · skip
        have hin : i = ps.length := by omega
        rw [List.take_of_length_le (by omega)] at hs hall hne
        subst hin
        obtain ⟨bl, hbe⟩ : ∃ z, z = (pks ps).flatMap packB := ⟨_, rfl⟩
        rw [← hbe] at hs hne
        by_cases hm : n ≤ 1500
        · have HF := Lib.hid (Ret.mk (Q := fun v _ M' => BuiltAs M (pks ps) v M') hle hs (show BuiltAs M (pks ps) _ _ from .inl ⟨⟨⟨by omega, by omega⟩, ⟨x0.1, pks r0, by rw [HX0.out]; rfl, HKK.out⟩, hall, by rw [← hbe, ← hne]; exact hm⟩, _, rfl, by rw [← hbe, ← hne]⟩))
          clear hs hbe hne hall
          go_wp2
          go_returns
          exact HF.out
        · have HF := Lib.hid (Ret.mk (Q := fun v _ M' => BuiltAs M (pks ps) v M') hle hs.drop (show BuiltAs M (pks ps) _ _ from .inr ⟨Built.no_most (by rw [← hbe, ← hne]; exact hm), rfl, rfl⟩))
          have hm2 : (1500 : Int) < (n : Int) := by omega
          clear hs hbe hne hall
          go_wp2
          go_returns
          exact HF.out
end Go.Proofs.Ytddopbbmgpnjjaa
