/- rtcp.Build. -/
import Derived.Test.YtddopbbmgpnjjaaRcY
namespace Go.Proofs.Ytddopbbmgpnjjaa
open Go.RowKit
set_option linter.unusedSimpArgs false

theorem within_t {n lo hi : Int} (h : lo ≤ n ∧ n ≤ hi) : withinB n lo hi = true := by
  unfold withinB
  rw [decide_eq_true h.1, decide_eq_true h.2]; rfl
theorem within_f {n lo hi : Int} (h : ¬ (lo ≤ n ∧ n ≤ hi)) : withinB n lo hi = false := by
  cases e : withinB n lo hi
  · rfl
  · exact absurd (within_yes e) h
set_option maxRecDepth 100000 in
set_option maxHeartbeats 20000000 in
theorem buildC (I : Img) (M : List Res) (w : World) (A : Option Addr) (z : Nat) (ps : List (Pk × Vs)) (hp : Pks I A ps) (hst : St I M w) :
    Calls Try.prog 11 #[.slice A ps.length z] w (Ret I (fun v _ M' => BuiltAs M (pks ps) v M')) := by
  have HP := Lib.hid hp
  have HS0 := Lib.hid hst
  have hmost := hp.most
  clear hp hst
  by_cases hlen : 1 ≤ ps.length ∧ ps.length ≤ 8
  case neg =>
    have HW := withinC ps.length 1 8 w
    rw [within_f (by omega)] at HW
    have HW := Lib.hid HW
    go_enter Try.func11, Try.ntmps11
    go_wp2_with (go_at_call 19; refine HW.out.mono ?_; clear HW; rintro e w2 ⟨rfl, hw⟩; subst hw)
    go_returns
    exact Ret.mk (.refl I) HS0.out (.inr ⟨Built.no_len (by simpa [pks] using hlen), rfl, rfl⟩)
  have HW := withinC ps.length 1 8 w
  rw [within_t (by omega)] at HW
  have HW := Lib.hid HW
  obtain ⟨g, o, rfl, hcell⟩ := flat_get (s := 16) (fun _ => rfl) HP.out.cells (by omega) (by decide)
  obtain ⟨x0, r0, hx0⟩ : ∃ x r, ps = x :: r := by
    cases ps with
    | nil => simp at hlen
    | cons x r => exact ⟨x, r, rfl⟩
  have z0 : w.cell? ⟨g, o, none⟩ = some (.int .i64 x0.1.kind) := by
    have := hcell _ _ HS0.out 0 (by omega) 0 (by decide)
    subst hx0
    simpa using this
  have HC := Lib.hid hcell
  have HX0 := Lib.hid hx0
  clear hcell hx0
  have HK := withinC x0.1.kind 1 2 w
  obtain ⟨h1, h2⟩ := hlen
  by_cases hk : x0.1.kind = 1 ∨ x0.1.kind = 2
  case neg =>
    rw [within_f (by omega)] at HK
    have HK := Lib.hid HK
    go_enter Try.func11, Try.ntmps11
    go_wp2_with (first | (go_at_call 19; refine HW.out.mono ?_; clear HW; rintro e w2 ⟨rfl, hw⟩; subst hw) | (go_at_call 19; refine HK.out.mono ?_; clear HK; rintro e w2 ⟨rfl, hw⟩; subst hw))
    go_returns
    exact Ret.mk (.refl I) HS0.out (.inr ⟨by rw [HX0.out]; exact Built.no_head hk, rfl, rfl⟩)
  rw [within_t (by omega)] at HK
  have HK := Lib.hid HK
  have HKK := Lib.hid hk
  clear hk
  go_enter Try.func11, Try.ntmps11
  go_upto_region 4 with (first | (go_at_call 19; refine HW.out.mono ?_; clear HW; rintro e w2 ⟨rfl, hw⟩; subst hw) | (go_at_call 19; refine HK.out.mono ?_; clear HK; rintro e w2 ⟨rfl, hw⟩; subst hw))

  have hs : St I (row 5 1 (.slice none 0 0) ([] : List UInt8).length (bvs []) :: bk w.heap.size 60 #[.slice none 0 0] :: M) (w.alloc (.cells #[.slice none 0 0] 60)) := (HS0.out.alloc 60 #[.slice none 0 0]).nil
  obtain ⟨B, hB⟩ : ∃ B, B = w.heap.size := ⟨_, rfl⟩
  rw [← hB] at hs ⊢
  generalize World.alloc w _ = W at hs ⊢
  clear hB z0 HS0
  have HS := Lib.hid hs
  clear hs
  go_upto_region 5 with fail
  go_loopw [21] (fun iv wr => ∃ i : Nat, i ≤ ps.length ∧ iv = .int .i64 i ∧ Hid ((∀ p ∈ (pks ps).take i, Good p) ∧ ∃ J vb, I.le J ∧ St J (row 5 1 vb (((pks ps).take i).flatMap packB).length (bvs (((pks ps).take i).flatMap packB)) :: bk B 60 #[vb] :: M) wr)) (fun iv _ => ps.length - (intOf iv).toNat)
  case atStart => exact ⟨0, by omega, rfl, Lib.hid ⟨fun p hp => by simp at hp, I, _, .refl I, HS.out⟩⟩
  case round =>
    obtain ⟨i, hi, rfl, hh⟩ := hrel
    clear HS
    obtain ⟨hall, J, vb, hle, hs⟩ := hh.out
    clear hh
    have hpl : (pks ps).length = ps.length := List.length_map ..
    by_cases hlt : i < ps.length
    · skip
      have hcl := HC.out _ _ (hs.less hle) i hlt
      have hme := (HP.out.mono hle).each _ (List.getElem_mem hlt)
      have htk : (pks ps).take (i + 1) = (pks ps).take i ++ [ps[i].1] := by rw [List.take_succ_eq_append_getElem (by omega)]; simp [pks]
      have hmem : ps[i].1 ∈ pks ps := List.mem_map_of_mem (List.getElem_mem hlt)
      generalize ps[i] = x at hcl hme htk hmem
      obtain ⟨⟨kind, sender, media, ntp, rtp, pkts, octs, reps, name, srcs, seqs, base, ref, count, arrs, wants⟩, ⟨vr, vs, vq, va, vw⟩⟩ := x
      obtain ⟨⟨hr, hs', hq, ha, hw⟩, hraw⟩ := hme
      dsimp only at hr hs' hq ha hw hraw htk hmem
      obtain ⟨rA, rz, rfl, cr, -⟩ := hr
      obtain ⟨sA, sz, rfl, cs, -⟩ := hs'
      obtain ⟨qA, qz, rfl, cq, hqz⟩ := hq
      obtain ⟨aA, az, rfl, ca, -⟩ := ha
      obtain ⟨wA, wz, rfl, cw, -⟩ := hw
      have y0 : wr.cell? ⟨g, o + i * 16, none⟩ = some (.int .i64 kind) := hcl 0 (by decide)
      have y1 : wr.cell? ⟨g, o + i * 16 + 1, none⟩ = some (.int .u32 sender) := hcl 1 (by decide)
      have y2 : wr.cell? ⟨g, o + i * 16 + 2, none⟩ = some (.int .u32 media) := hcl 2 (by decide)
      have y3 : wr.cell? ⟨g, o + i * 16 + 3, none⟩ = some (.int .u64 ntp) := hcl 3 (by decide)
      have y4 : wr.cell? ⟨g, o + i * 16 + 4, none⟩ = some (.int .u32 rtp) := hcl 4 (by decide)
      have y5 : wr.cell? ⟨g, o + i * 16 + 5, none⟩ = some (.int .u32 pkts) := hcl 5 (by decide)
      have y6 : wr.cell? ⟨g, o + i * 16 + 6, none⟩ = some (.int .u32 octs) := hcl 6 (by decide)
      have y7 : wr.cell? ⟨g, o + i * 16 + 7, none⟩ = some (.slice rA reps.length rz) := hcl 7 (by decide)
      have y8 : wr.cell? ⟨g, o + i * 16 + 8, none⟩ = some (.string name) := hcl 8 (by decide)
      have y9 : wr.cell? ⟨g, o + i * 16 + 9, none⟩ = some (.slice sA srcs.length sz) := hcl 9 (by decide)
      have y10 : wr.cell? ⟨g, o + i * 16 + 10, none⟩ = some (.slice qA seqs.length qz) := hcl 10 (by decide)
      have y11 : wr.cell? ⟨g, o + i * 16 + 11, none⟩ = some (.int .u16 base) := hcl 11 (by decide)
      have y12 : wr.cell? ⟨g, o + i * 16 + 12, none⟩ = some (.int .u32 ref) := hcl 12 (by decide)
      have y13 : wr.cell? ⟨g, o + i * 16 + 13, none⟩ = some (.int .u8 count) := hcl 13 (by decide)
      have y14 : wr.cell? ⟨g, o + i * 16 + 14, none⟩ = some (.slice aA arrs.length az) := hcl 14 (by decide)
      have y15 : wr.cell? ⟨g, o + i * 16 + 15, none⟩ = some (.slice wA wants.length wz) := hcl 15 (by decide)
      clear hcl
      have hs1 := hs.alloc 51 #[.int .i64 kind, .int .u32 sender, .int .u32 media, .int .u64 ntp, .int .u32 rtp, .int .u32 pkts, .int .u32 octs, .slice rA reps.length rz, .string name, .slice sA srcs.length sz, .slice qA seqs.length qz, .int .u16 base, .int .u32 ref, .int .u8 count, .slice aA arrs.length az, .slice wA wants.length wz]
      obtain ⟨q, hq⟩ : ∃ q, q = wr.heap.size := ⟨_, rfl⟩
      rw [← hq] at hs1
      have HG := Lib.hid (goodC J _ _ kind sender media ntp rtp pkts octs base ref count name reps srcs seqs arrs wants rA rz sA sz qA qz aA az wA wz cr hraw.lr (fun x hx => (hraw.reps x hx).total) cq hraw.lq ca hraw.la hraw.ln hraw.ls hraw.lw hraw.ref hs1)
      have HR := Lib.hid (And.intro hraw (And.intro htk (And.intro hmem hall)))
      have HCC := Lib.hid (And.intro cr (And.intro cs (And.intro cq (And.intro ca (And.intro cw hqz)))))
      have HLE := Lib.hid hle
      have HB := Lib.hid hs1
      have HQ := Lib.hid hq
      clear hs hs1 hraw htk hmem hall cr cs cq ca cw hqz hle hq
      go_upto_region 7 with fail
      rw [← HQ.out]
      obtain ⟨cs1, hcs1⟩ : ∃ z : Array Value, z = #[.int .i64 kind, .int .u32 sender, .int .u32 media, .int .u64 ntp, .int .u32 rtp, .int .u32 pkts, .int .u32 octs, .slice rA reps.length rz, .string name, .slice sA srcs.length sz, .slice qA seqs.length qz, .int .u16 base, .int .u32 ref, .int .u8 count, .slice aA arrs.length az, .slice wA wants.length wz] := ⟨_, rfl⟩
      generalize World.alloc wr _ = W2 at HB HG ⊢
      obtain ⟨hc1, hf1, hl1⟩ := Blk.all (HB.out.at 0 rfl)
      clear y0 y1 y2 y3 y4 y5 y6 y7 y8 y9 y10 y11 y12 y13 y14 y15
      go_wp2_with fail
      go_at_call 20
      refine HG.out.mono ?_
      clear HG HB hc1 hf1 hl1 W2
      rintro e w2 ⟨_, _, _, rfl, _, hs, rfl, rfl, rfl⟩
      obtain ⟨hc1, hf1, hl1⟩ := Blk.all (hs.at 0 rfl)
      by_cases hg : Good (⟨kind, sender, media, ntp, rtp, pkts, octs, reps, name, srcs, seqs, base, ref, count, arrs, wants⟩ : Pk)
      · skip
        rw [goodB_yes hg]
        have hlp := packs_len (n := 8) (by rw [List.length_take]; omega) HR.out.2.2.2
        have HC2 := Lib.hid (writeC J (bk q 51 #[.int .i64 kind, .int .u32 sender, .int .u32 media, .int .u64 ntp, .int .u32 rtp, .int .u32 pkts, .int .u32 octs, .slice rA reps.length rz, .string name, .slice sA srcs.length sz, .slice qA seqs.length qz, .int .u16 base, .int .u32 ref, .int .u8 count, .slice aA arrs.length az, .slice wA wants.length wz] :: M) w2 kind sender media ntp rtp pkts octs base ref count name reps srcs seqs arrs wants rA rz sA sz qA qz aA az wA wz HCC.out.1 HCC.out.2.1 HCC.out.2.2.1 HCC.out.2.2.2.1 HCC.out.2.2.2.2.1 B vb _ (HR.out.1.ok hg) hg (by omega) HCC.out.2.2.2.2.2 hs.rot12)
        have HGG := Lib.hid hg
        clear hs hg hlp
        go_wp2_with fail
        go_at_call 21
        refine HC2.out.mono ?_
        clear HC2 hc1 hf1 hl1
        rintro e w3 ⟨_, J2, _, rfl, hle2, hs, rfl, vb2, rfl⟩
        have HS := Lib.hid hs.rot21.drop
        clear hs
        go_wp2
        go_roundw
        case rel =>
          refine ⟨i + 1, by omega, by go_num, Lib.hid ⟨?_, J2, vb2, HLE.out.trans hle2, ?_⟩⟩
          · rw [HR.out.2.1]
            intro p hp
            rcases List.mem_append.1 hp with hp | hp
            · exact HR.out.2.2.2 p hp
            · rw [List.mem_singleton.1 hp]; exact HGG.out
          · rw [HR.out.2.1, List.flatMap_append, List.flatMap_singleton]
            exact HS.out
        case measure => simp [intOf]; omega
      · skip
        rw [goodB_no hg]
        have HF := Lib.hid (Ret.mk (Q := fun v _ M' => BuiltAs M (pks ps) v M') HLE.out (hs.drop.drop.drop) (show BuiltAs M (pks ps) _ _ from .inr ⟨Built.no_good HR.out.2.2.1 hg, rfl, rfl⟩))
        clear hs hg
        go_wp2
        go_returns
        exact HF.out
    · skip
      have hin : i = ps.length := by omega
      rw [List.take_of_length_le (by omega)] at hs hall
      have hl8 := packs_len (n := 8) (by omega) hall
      subst hin
      obtain ⟨bA, bz, rfl⟩ := own_form (show World.ownsRow _ 0 5 1 vb _ _ from hs.at 0 rfl)
      obtain ⟨hcb, hfb, hlb⟩ := (show Blk _ B 60 #[_] from hs.at 1 rfl).one
      by_cases hm : ((pks ps).flatMap packB).length ≤ 1500
      · have HF := Lib.hid (Ret.mk (Q := fun v _ M' => BuiltAs M (pks ps) v M') hle hs.swap1.drop (show BuiltAs M (pks ps) _ _ from .inl ⟨⟨⟨by omega, by omega⟩, ⟨x0.1, pks r0, by rw [HX0.out]; rfl, HKK.out⟩, hall, hm⟩, _, rfl, rfl⟩))
        generalize ((pks ps).flatMap packB).length = n at *
        clear hs
        go_wp2
        go_returns
        exact HF.out
      · have HF := Lib.hid (Ret.mk (Q := fun v _ M' => BuiltAs M (pks ps) v M') hle hs.drop.drop (show BuiltAs M (pks ps) _ _ from .inr ⟨Built.no_most hm, rfl, rfl⟩))
        generalize ((pks ps).flatMap packB).length = n at *
        clear hs
        go_wp2
        go_returns
        exact HF.out
end Go.Proofs.Ytddopbbmgpnjjaa
