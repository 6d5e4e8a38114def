/- rostrumlaw13.ours: the program's packets, as the document's. -/
import Derived.Test.YtddopbbmgpnjjaaRdK
namespace Go.Proofs.Ytddopbbmgpnjjaa
open Go.RowKit
set_option linter.unusedSimpArgs false

theorem info64 : (Try.prog.info? 64).map (fun i => (i.zero, i.size, i.bytes)) = some (some (.agg #[.int .u32 0, .int .u8 0, .int .u32 0, .int .u32 0, .int .u32 0, .int .u32 0, .int .u32 0]), 7, 28) := by kernel_rfl
theorem info67 : (Try.prog.info? 67).map (fun i => (i.zero, i.size, i.bytes)) = some (some (.agg #[.int .u32 0, .int .u8 0]), 2, 8) := by kernel_rfl
theorem info56 : (Try.prog.info? 56).map (fun i => (i.zero, i.size, i.bytes)) = some (some (.agg Z51), 16, 192) := by kernel_rfl
set_option maxRecDepth 100000 in
set_option maxHeartbeats 40000000 in
theorem oursC (I : Img) (M : List Res) (w : World) (A : Option Addr) (z : Nat) (ps : List (Pk × Vs)) (hp : Pks I A ps) (hlen : ps.length * 192 ≤ 140737488351232) (hst : St I M w) :
    Calls Try.prog 16 #[.slice A ps.length z] w (fun e w' => ∃ J B c qs, e = .returned (.slice B ps.length c) ∧ I.le J ∧ St J M w' ∧ Pks J B qs ∧ pks qs = pks ps) := by
  have HP := Lib.hid hp
  have HS := Lib.hid (hst.nil (e := 56) (size := 16))
  clear hp hst
  go_enter Try.func16, Try.ntmps16
  go_upto_region 3 with fail
  go_loopw [3, 12] (fun ov iv wr => ∃ (i : Nat) (B : Option Addr) (c : Nat), ov = .slice B i c ∧ iv = .int .i64 i ∧ i ≤ ps.length ∧ Hid (∃ J qs, I.le J ∧ St J (row 56 16 (.slice B i c) i (flat pvC qs) :: M) wr ∧ qs.length = i ∧ pks qs = (pks ps).take i ∧ ∀ x ∈ qs, PkIn J x.1 x.2 ∧ PkRaw x.1)) (fun _ iv _ => ps.length - (intOf iv).toNat)
  case atStart => exact ⟨0, none, 0, rfl, rfl, by omega, Lib.hid ⟨I, [], .refl I, HS.out, rfl, by simp, fun x hx => by cases hx⟩⟩
  case round =>
    obtain ⟨i, B, c, rfl, rfl, hi, hh⟩ := hrel
    clear HS
    obtain ⟨J, qs, hle, hs, hql, hqs, hqe⟩ := hh.out
    clear hh
    have hpl : (pks ps).length = ps.length := List.length_map ..
    by_cases hlt : i < ps.length
    · skip
      obtain ⟨g, o, rfl, hcell⟩ := flat_get (s := 16) (fun _ => rfl) HP.out.cells (by omega) (by decide)
      have hcl := hcell _ _ (hs.less hle) i hlt
      have hme := (HP.out.mono hle).each _ (List.getElem_mem hlt)
      have htk : (pks ps).take (i + 1) = (pks ps).take i ++ [ps[i].1] := by rw [List.take_succ_eq_append_getElem (by omega)]; simp [pks]
      clear hcell
      generalize ps[i] = x at hcl hme htk
      obtain ⟨⟨kind, sender, media, ntp, rtp, pkts, octs, reps, name, srcs, seqs, base, ref, count, arrs, wants⟩, ⟨vr, vs, vq, va, vw⟩⟩ := x
      obtain ⟨⟨hr, hs', hq, ha, hw⟩, hraw⟩ := hme
      dsimp only at hr hs' hq ha hw hraw htk
      obtain ⟨rA, rz, rfl, cr, kr⟩ := hr
      obtain ⟨sA, sz, rfl, cs, ks⟩ := hs'
      obtain ⟨qA, qz, rfl, cq, kq⟩ := hq
      obtain ⟨aA, az, rfl, ca, ka⟩ := ha
      obtain ⟨wA, wz, rfl, cw, kw⟩ := hw
      have y0 : wr.cell? ⟨g, o + i * 16, none⟩ = some (.int .i64 kind) := hcl 0 (by decide)
      have y1 : wr.cell? ⟨g, o + i * 16 + 1, none⟩ = some (.int .u32 sender) := hcl 1 (by decide)
      have y2 : wr.cell? ⟨g, o + i * 16 + 2, none⟩ = some (.int .u32 media) := hcl 2 (by decide)
      have y3 : wr.cell? ⟨g, o + i * 16 + 3, none⟩ = some (.int .u64 ntp) := hcl 3 (by decide)
      have y4 : wr.cell? ⟨g, o + i * 16 + 4, none⟩ = some (.int .u32 rtp) := hcl 4 (by decide)
      have y5 : wr.cell? ⟨g, o + i * 16 + 5, none⟩ = some (.int .u32 pkts) := hcl 5 (by decide)
      have y6 : wr.cell? ⟨g, o + i * 16 + 6, none⟩ = some (.int .u32 octs) := hcl 6 (by decide)
      have y7 : wr.cell? ⟨g, o + i * 16 + 7, none⟩ = some (.slice rA reps.length rz) := hcl 7 (by decide)
      have y8 : wr.cell? ⟨g, o + i * 16 + 8, none⟩ = some (.string name) := hcl 8 (by decide)
      have y9 : wr.cell? ⟨g, o + i * 16 + 9, none⟩ = some (.slice sA srcs.length sz) := hcl 9 (by decide)
      have y10 : wr.cell? ⟨g, o + i * 16 + 10, none⟩ = some (.slice qA seqs.length qz) := hcl 10 (by decide)
      have y11 : wr.cell? ⟨g, o + i * 16 + 11, none⟩ = some (.int .u16 base) := hcl 11 (by decide)
      have y12 : wr.cell? ⟨g, o + i * 16 + 12, none⟩ = some (.int .u32 ref) := hcl 12 (by decide)
      have y13 : wr.cell? ⟨g, o + i * 16 + 13, none⟩ = some (.int .u8 count) := hcl 13 (by decide)
      have y14 : wr.cell? ⟨g, o + i * 16 + 14, none⟩ = some (.slice aA arrs.length az) := hcl 14 (by decide)
      have y15 : wr.cell? ⟨g, o + i * 16 + 15, none⟩ = some (.slice wA wants.length wz) := hcl 15 (by decide)
      have HIN := Lib.hid (And.intro hql (And.intro hqs (And.intro hqe (And.intro htk hraw))))
      have HCC := Lib.hid (And.intro cr (And.intro cs (And.intro cq (And.intro ca cw))))
      have HKK := Lib.hid (And.intro kr (And.intro ks (And.intro kq (And.intro ka kw))))
      have hs1 := hs.alloc 51 #[.int .i64 kind, .int .u32 sender, .int .u32 media, .int .u64 ntp, .int .u32 rtp, .int .u32 pkts, .int .u32 octs, .slice rA reps.length rz, .string name, .slice sA srcs.length sz, .slice qA seqs.length qz, .int .u16 base, .int .u32 ref, .int .u8 count, .slice aA arrs.length az, .slice wA wants.length wz]
      obtain ⟨q, hq⟩ : ∃ q, q = wr.heap.size := ⟨_, rfl⟩
      rw [← hq] at hs1
      have HST := Lib.hid hs1
      have HLE := Lib.hid hle
      clear hs hs1 hle hql hqs hqe htk hraw cr cs cq ca cw kr ks kq ka kw hcl
      go_upto_region 6 with fail
      rw [← hq]
      generalize World.alloc wr _ = W at HST ⊢
      clear y0 y1 y2 y3 y4 y5 y6 y7 y8 y9 y10 y11 y12 y13 y14 y15 hq
      obtain ⟨hcq, hfq, hlq⟩ := Blk.all (HST.out.at 0 rfl)
      have hs3 := HST.out.alloc 56 #[.int .i64 kind, .int .u32 sender, .int .u32 media, .int .u64 ntp, .int .u32 rtp, .int .u32 pkts, .int .u32 octs, (.slice none 0 0), .string name, .slice sA srcs.length sz, .slice qA seqs.length qz, .int .u16 base, .int .u32 ref, .int .u8 count, .slice aA arrs.length az, (.slice none 0 0)]
      obtain ⟨p, hp⟩ : ∃ p, p = W.heap.size := ⟨_, rfl⟩
      rw [← hp] at hs3
      go_upto_region 7 with fail
      rw [← hp]
      clear hcq hfq hlq hp
      have HS := Lib.hid hs3
      clear hs3 HST
      generalize World.alloc W _ = W2 at HS ⊢
      obtain ⟨hcq, hfq, hlq⟩ := Blk.all (HS.out.at 1 rfl)
      go_upto_region 8 with fail
      clear hcq hfq hlq
      have hsr := HS.out.nil (e := 64) (size := 7)
      have HSR := Lib.hid hsr
      clear hsr
      go_loopw [51] (fun kv wr' => ∃ (k : Nat) (B2 : Option Addr) (d2 : Nat), kv = .int .i64 k ∧ k ≤ reps.length ∧ Hid (St J (row 64 7 (.slice B2 k d2) k (flat repC (reps.take k)) :: bk p 56 #[.int .i64 kind, .int .u32 sender, .int .u32 media, .int .u64 ntp, .int .u32 rtp, .int .u32 pkts, .int .u32 octs, (.slice B2 k d2), .string name, .slice sA srcs.length sz, .slice qA seqs.length qz, .int .u16 base, .int .u32 ref, .int .u8 count, .slice aA arrs.length az, (.slice none 0 0)] :: bk q 51 #[.int .i64 kind, .int .u32 sender, .int .u32 media, .int .u64 ntp, .int .u32 rtp, .int .u32 pkts, .int .u32 octs, .slice rA reps.length rz, .string name, .slice sA srcs.length sz, .slice qA seqs.length qz, .int .u16 base, .int .u32 ref, .int .u8 count, .slice aA arrs.length az, .slice wA wants.length wz] :: row 56 16 (.slice B i c) i (flat pvC qs) :: M) wr')) (fun kv _ => reps.length - (intOf kv).toNat)
      case atStart => exact ⟨0, none, 0, rfl, by omega, HSR⟩
      case round =>
        obtain ⟨k, B2, d2, rfl, hk, hh⟩ := hrel
        have hs := hh.out
        clear hh HSR HS
        obtain ⟨hcq, hfq, hlq⟩ := Blk.all (hs.at 2 rfl)
        by_cases hkl : k < reps.length
        · skip
          obtain ⟨g2, o2, e2, hcell⟩ := flat_get (s := 7) (fun _ => rfl) (HCC.out.1) (by omega) (by decide)
          have hcl := hcell _ _ hs k hkl
          have HTK := Lib.hid (show flat repC (reps.take (k + 1)) = flat repC (reps.take k) ++ repC reps[k] by rw [List.take_succ_eq_append_getElem hkl, flat_append]; simp [flat])
          clear hcell
          generalize reps[k] = y at hcl HTK
          have z0 : wr.cell? ⟨g2, o2 + k * 7, none⟩ = some (.int .u32 y.src) := hcl 0 (by decide)
          have z1 : wr.cell? ⟨g2, o2 + k * 7 + 1, none⟩ = some (.int .u8 y.lost) := hcl 1 (by decide)
          have z2 : wr.cell? ⟨g2, o2 + k * 7 + 2, none⟩ = some (.int .u32 y.total) := hcl 2 (by decide)
          have z3 : wr.cell? ⟨g2, o2 + k * 7 + 3, none⟩ = some (.int .u32 y.high) := hcl 3 (by decide)
          have z4 : wr.cell? ⟨g2, o2 + k * 7 + 4, none⟩ = some (.int .u32 y.jit) := hcl 4 (by decide)
          have z5 : wr.cell? ⟨g2, o2 + k * 7 + 5, none⟩ = some (.int .u32 y.last) := hcl 5 (by decide)
          have z6 : wr.cell? ⟨g2, o2 + k * 7 + 6, none⟩ = some (.int .u32 y.delay) := hcl 6 (by decide)
          have hs1 := hs.alloc 65 #[.int .u32 y.src, .int .u8 y.lost, .int .u32 y.total, .int .u32 y.high, .int .u32 y.jit, .int .u32 y.last, .int .u32 y.delay]
          obtain ⟨q8, hq8⟩ : ∃ q, q = wr.heap.size := ⟨_, rfl⟩
          rw [← hq8] at hs1
          have HST := Lib.hid hs1
          clear hs hs1 hcl
          go_upto_region 11 with fail
          rw [← hq8]
          obtain ⟨h8, f8, l8⟩ := Blk.all (HST.out.at 0 rfl)
          obtain ⟨hp, fp, lp⟩ := Blk.all (HST.out.at 2 rfl)
          clear z0 z1 z2 z3 z4 z5 z6 hq8 hcq hfq hlq
          have HE2 := Lib.hid e2
          clear e2
          generalize World.alloc wr _ = W3 at HST h8 f8 hp fp l8 lp ⊢
          obtain ⟨i0, hi0, hz0, hz1, hz2⟩ := info_parts info64
          have hsr := HST.out.litSrcV (P := Try.prog) (t := 53) (e := 64) (cs := #[.int .u32 y.src, .int .u8 y.lost, .int .u32 y.total, .int .u32 y.high, .int .u32 y.jit, .int .u32 y.last, .int .u32 y.delay]) (n := 1) (size := 7) rfl (by decide) Try.underlying53 (by simp [Value.oneCell'])
          have hsg := HST.out.swap1.grow (.cells #[.int .u32 y.src, .int .u8 y.lost, .int .u32 y.total, .int .u32 y.high, .int .u32 y.jit, .int .u32 y.last, .int .u32 y.delay] 64)
          have HBR := Lib.hid (show reps.length * 28 ≤ 140737488351232 from HIN.out.2.2.2.2.br)
          go_wp2_with (at_builtin; refine wpList_append_src _ rfl _ _ 53 53 rfl 0 64 i0 (.agg #[.int .u32 0, .int .u8 0, .int .u32 0, .int .u32 0, .int .u32 0, .int .u32 0, .int .u32 0]) 7 28 Try.underlying53 hi0 hz0 hz1 hz2 rfl _ k (flat repC (reps.take k)) rfl hsg.head _ 1 _ rfl hsr (by have := HBR.out; unfold maxLen; omega) (by have := HBR.out; omega) (Nat.zero_le _) ?_)
          intro v' w5 hown' hgrow hat
          have hown2 : w5.ownsRow 0 64 7 v' (k + 1) (flat repC (reps.take (k + 1))) := by rw [HTK.out]; exact hown'
          obtain ⟨A10, c10, rfl⟩ := own_form hown2
          have hs5 := hsg.grown hgrow hown2 (by simpa using hat)
          have HS6 := Lib.hid (show St J (row 64 7 (.slice A10 (k + 1) c10) (k + 1) (flat repC (reps.take (k + 1))) :: bk p 56 #[.int .i64 kind, .int .u32 sender, .int .u32 media, .int .u64 ntp, .int .u32 rtp, .int .u32 pkts, .int .u32 octs, (.slice A10 (k + 1) c10), .string name, .slice sA srcs.length sz, .slice qA seqs.length qz, .int .u16 base, .int .u32 ref, .int .u8 count, .slice aA arrs.length az, (.slice none 0 0)] :: bk q 51 #[.int .i64 kind, .int .u32 sender, .int .u32 media, .int .u64 ntp, .int .u32 rtp, .int .u32 pkts, .int .u32 octs, .slice rA reps.length rz, .string name, .slice sA srcs.length sz, .slice qA seqs.length qz, .int .u16 base, .int .u32 ref, .int .u8 count, .slice aA arrs.length az, .slice wA wants.length wz] :: row 56 16 (.slice B i c) i (flat pvC qs) :: M) (w5.setCell ⟨p, 7, none⟩ (.slice A10 (k + 1) c10)) from ((hs5.swap2.set 7 (.slice A10 (k + 1) c10)).swap2.swap1).drop)
          obtain ⟨hp, fp, lp⟩ := Blk.all (hs5.at 2 rfl)
          clear hs5 hown' hown2 hgrow hat hsr hsg h8 f8 l8
          have HK1 := Lib.hid (show k + 1 ≤ reps.length from hkl)
          have hkb : (k : Int) ≤ 140737488351232 := by have := HBR.out; omega
          go_wp2
          try simp only [← HE2.out]
          go_roundw
          case rel => exact ⟨k + 1, A10, c10, by go_num, HK1.out, HS6⟩
          case measure => have := HK1.out; simp [intOf]; omega
        have hke : k = reps.length := by omega
        subst hke
        rw [List.take_length] at hs
        obtain ⟨J2, hle2, hs6, hcr⟩ := hs.freezeRow
        have hcap := (own_cap (show World.ownsRow _ 0 64 7 (.slice B2 reps.length d2) reps.length _ from hs.at 0 rfl)).2
        have HRP := Lib.hid (And.intro hcr (And.intro hcap hle2))
        have HS := Lib.hid hs6
        clear hs hs6 hcr hcap hle2 hcq hfq hlq hkl
        obtain ⟨hcq, hfq, hlq⟩ := Blk.all (HS.out.at 1 rfl)
        go_upto_region 14 with fail
        clear hcq hfq hlq
        have hsr := HS.out.nil (e := 67) (size := 2)
        have HSR := Lib.hid hsr
        clear hsr
        go_loopw [83] (fun kv wr' => ∃ (k : Nat) (B3 : Option Addr) (d3 : Nat), kv = .int .i64 k ∧ k ≤ wants.length ∧ Hid (St J2 (row 67 2 (.slice B3 k d3) k (flat wnC (wants.take k)) :: bk p 56 #[.int .i64 kind, .int .u32 sender, .int .u32 media, .int .u64 ntp, .int .u32 rtp, .int .u32 pkts, .int .u32 octs, (.slice B2 reps.length d2), .string name, .slice sA srcs.length sz, .slice qA seqs.length qz, .int .u16 base, .int .u32 ref, .int .u8 count, .slice aA arrs.length az, (.slice B3 k d3)] :: bk q 51 #[.int .i64 kind, .int .u32 sender, .int .u32 media, .int .u64 ntp, .int .u32 rtp, .int .u32 pkts, .int .u32 octs, .slice rA reps.length rz, .string name, .slice sA srcs.length sz, .slice qA seqs.length qz, .int .u16 base, .int .u32 ref, .int .u8 count, .slice aA arrs.length az, .slice wA wants.length wz] :: row 56 16 (.slice B i c) i (flat pvC qs) :: M) wr')) (fun kv _ => wants.length - (intOf kv).toNat)
        case atStart => exact ⟨0, none, 0, rfl, by omega, HSR⟩
        case round =>
          obtain ⟨k, B3, d3, rfl, hk3, hh⟩ := hrel
          have hs := hh.out
          clear hh HSR HS
          obtain ⟨hcq, hfq, hlq⟩ := Blk.all (hs.at 2 rfl)
          by_cases hkl : k < wants.length
          · skip
            obtain ⟨g2, o2, e2, hcell⟩ := flat_get (s := 2) (fun _ => rfl) (HCC.out.2.2.2.2.mono HRP.out.2.2) (by omega) (by decide)
            have hcl := hcell _ _ hs k hkl
            have HTK := Lib.hid (show flat wnC (wants.take (k + 1)) = flat wnC (wants.take k) ++ wnC wants[k] by rw [List.take_succ_eq_append_getElem hkl, flat_append]; simp [flat])
            have HCE := Lib.hid (fun (J9 : Img) (M9 : List Res) (w9 : World) (hl9 : J2.le J9) (h : St J9 M9 w9) => hcell _ _ (h.less hl9) k hkl)
            clear hcell
            generalize wants[k] = y at hcl HTK HCE
            have HST := Lib.hid hs
            clear hs hcl
            go_upto_region 16 with fail
            clear hcq hfq hlq
            have HSS := Lib.hid (fun (M9 : List Res) (w' : World) (hm1 : bk p 56 #[.int .i64 kind, .int .u32 sender, .int .u32 media, .int .u64 ntp, .int .u32 rtp, .int .u32 pkts, .int .u32 octs, (.slice B2 reps.length d2), .string name, .slice sA srcs.length sz, .slice qA seqs.length qz, .int .u16 base, .int .u32 ref, .int .u8 count, .slice aA arrs.length az, (.slice B3 k d3)] ∈ M9) (hm2 : bk q 51 #[.int .i64 kind, .int .u32 sender, .int .u32 media, .int .u64 ntp, .int .u32 rtp, .int .u32 pkts, .int .u32 octs, .slice rA reps.length rz, .string name, .slice sA srcs.length sz, .slice qA seqs.length qz, .int .u16 base, .int .u32 ref, .int .u8 count, .slice aA arrs.length az, .slice wA wants.length wz] ∈ M9) (hs : St J2 M9 w') => (show (w'.cell? ⟨p, 15, none⟩ = some (.slice B3 k d3) ∧ w'.cell? ⟨q, 15, none⟩ = some (.slice wA wants.length wz)) ∧ w'.cell? ⟨g2, o2 + k * 2, none⟩ = some (.int .u32 y.src) ∧ w'.cell? ⟨g2, o2 + k * 2 + 1, none⟩ = some (.int .u8 y.seq) from ⟨⟨(Blk.all (hs.res _ hm1)).1 15, (Blk.all (hs.res _ hm2)).1 15⟩, HCE.out J2 _ _ (.refl _) hs 0 (by decide), HCE.out J2 _ _ (.refl _) hs 1 (by decide)⟩))
            have HE2 := Lib.hid e2
            have hjw : IntKind.i64.wrap (k : Int) = (k : Int) := wrap_i64 (by have := HIN.out.2.2.2.2.bw; simp only [] at this; omega) (by have := HIN.out.2.2.2.2.bw; simp only [] at this; omega)
            have hk9 : (k : Int) < (wants.length : Int) := by omega
            rw [e2] at HSS ⊢
            refine wp_region_last (S := fun w' => (w'.cell? ⟨p, 15, none⟩ = some (.slice B3 k d3) ∧ w'.cell? ⟨q, 15, none⟩ = some (.slice (some ⟨g2, o2, none⟩) wants.length wz)) ∧ w'.cell? ⟨g2, o2 + k * 2, none⟩ = some (.int .u32 y.src) ∧ w'.cell? ⟨g2, o2 + k * 2 + 1, none⟩ = some (.int .u8 y.seq)) (by kernel_rfl) (HSS.out _ _ (by simp [e2]) (by simp [e2]) HST.out.drew) (fun hHeld => ?_)
            refine wpAnyL_take (i := 0) 1 (oi := _) (v := ?_) rfl (by kernel_rfl) (by kernel_rfl) (by kernel_rfl) (by kernel_rfl) (fun _ _ _ h => h) (Or.inl ⟨by rfl, ?_⟩) (by assumption) ?_
            rotate_left
            · (intro w hSw; (try dsimp only at hSw); go_simp; try with_reducible rfl)
            try simp only [Act.put, List.getElem_toArray, List.getElem_cons_zero, List.getElem_cons_succ, List.setIfInBounds_toArray, List.set_cons_zero, List.set_cons_succ]
            refine wpAnyL_take (i := 1) 16 (oi := _) (v := ?_) rfl (by kernel_rfl) (by kernel_rfl) (by kernel_rfl) (by kernel_rfl) (fun _ _ _ h => h) (Or.inl ⟨by rfl, ?_⟩) (by assumption) ?_
            rotate_left
            · (intro w hSw; (try dsimp only at hSw); go_simp; try with_reducible rfl)
            try simp only [Act.put, List.getElem_toArray, List.getElem_cons_zero, List.getElem_cons_succ, List.setIfInBounds_toArray, List.set_cons_zero, List.set_cons_succ]
            refine wpAnyL_take (i := 2) 3 (oi := _) (v := ?_) rfl (by kernel_rfl) (by kernel_rfl) (by kernel_rfl) (by kernel_rfl) (fun _ _ _ h => h) (Or.inl ⟨by rfl, ?_⟩) (by assumption) ?_
            rotate_left
            · (intro w hSw; (try dsimp only at hSw); go_simp; try with_reducible rfl)
            try simp only [Act.put, List.getElem_toArray, List.getElem_cons_zero, List.getElem_cons_succ, List.setIfInBounds_toArray, List.set_cons_zero, List.set_cons_succ]
            refine wpAnyL_take (i := 3) 5 (oi := _) (v := ?_) rfl (by kernel_rfl) (by kernel_rfl) (by kernel_rfl) (by kernel_rfl) (fun _ _ _ h => h) (Or.inl ⟨by rfl, ?_⟩) (by assumption) ?_
            rotate_left
            · (intro w hSw; (try dsimp only at hSw); go_simp; try with_reducible rfl)
            try simp only [Act.put, List.getElem_toArray, List.getElem_cons_zero, List.getElem_cons_succ, List.setIfInBounds_toArray, List.set_cons_zero, List.set_cons_succ]
            refine wpAnyL_take (i := 4) 5 (oi := _) (v := ?_) rfl (by kernel_rfl) (by kernel_rfl) (by kernel_rfl) (by kernel_rfl) (fun _ _ _ h => h) (Or.inl ⟨by rfl, ?_⟩) (by assumption) ?_
            rotate_left
            · (intro w hSw; (try dsimp only at hSw); go_simp; try with_reducible rfl)
            try simp only [Act.put, List.getElem_toArray, List.getElem_cons_zero, List.getElem_cons_succ, List.setIfInBounds_toArray, List.set_cons_zero, List.set_cons_succ]
            refine wpAnyL_take (i := 5) 6 (oi := _) (v := ?_) rfl (by kernel_rfl) (by kernel_rfl) (by kernel_rfl) (by kernel_rfl) (fun _ _ _ h => h) (Or.inl ⟨by rfl, ?_⟩) (by assumption) ?_
            rotate_left
            · (intro w hSw; (try dsimp only at hSw); go_simp; try with_reducible rfl)
            try simp only [Act.put, List.getElem_toArray, List.getElem_cons_zero, List.getElem_cons_succ, List.setIfInBounds_toArray, List.set_cons_zero, List.set_cons_succ]
            refine wpAnyL_take (i := 6) 7 (oi := _) (v := ?_) rfl (by kernel_rfl) (by kernel_rfl) (by kernel_rfl) (by kernel_rfl) (fun _ _ _ h => h) (Or.inl ⟨by rfl, ?_⟩) (by assumption) ?_
            rotate_left
            · (intro w hSw; (try dsimp only at hSw); go_simp; try with_reducible rfl)
            try simp only [Act.put, List.getElem_toArray, List.getElem_cons_zero, List.getElem_cons_succ, List.setIfInBounds_toArray, List.set_cons_zero, List.set_cons_succ]
            refine wpAnyL_take (i := 7) 14 (oi := _) (v := ?_) rfl (by kernel_rfl) (by kernel_rfl) (by kernel_rfl) (by kernel_rfl) (fun _ _ _ h => h) (Or.inl ⟨by rfl, ?_⟩) (by assumption) ?_
            rotate_left
            · (intro w hSw; (try dsimp only at hSw); go_simp; try with_reducible rfl)
            try simp only [Act.put, List.getElem_toArray, List.getElem_cons_zero, List.getElem_cons_succ, List.setIfInBounds_toArray, List.set_cons_zero, List.set_cons_succ]
            refine wpAnyL_take (i := 8) 9 (oi := _) (v := ?_) rfl (by kernel_rfl) (by kernel_rfl) (by kernel_rfl) (by kernel_rfl) (fun _ _ _ h => h) (Or.inl ⟨by rfl, ?_⟩) (by assumption) ?_
            rotate_left
            · (intro w hSw; (try dsimp only at hSw); go_simp; try with_reducible rfl)
            try simp only [Act.put, List.getElem_toArray, List.getElem_cons_zero, List.getElem_cons_succ, List.setIfInBounds_toArray, List.set_cons_zero, List.set_cons_succ]
            refine wpAnyL_take (i := 9) 11 (oi := _) (v := ?_) rfl (by kernel_rfl) (by kernel_rfl) (by kernel_rfl) (by kernel_rfl) (fun _ _ _ h => h) (Or.inl ⟨by rfl, ?_⟩) (by assumption) ?_
            rotate_left
            · (intro w hSw; (try dsimp only at hSw); go_simp; try with_reducible rfl)
            try simp only [Act.put, List.getElem_toArray, List.getElem_cons_zero, List.getElem_cons_succ, List.setIfInBounds_toArray, List.set_cons_zero, List.set_cons_succ]
            refine wpAnyL_take (i := 10) 11 (oi := _) (v := ?_) rfl (by kernel_rfl) (by kernel_rfl) (by kernel_rfl) (by kernel_rfl) (fun _ _ _ h => h) (Or.inl ⟨by rfl, ?_⟩) (by assumption) ?_
            rotate_left
            · (intro w hSw; (try dsimp only at hSw); go_simp; try with_reducible rfl)
            try simp only [Act.put, List.getElem_toArray, List.getElem_cons_zero, List.getElem_cons_succ, List.setIfInBounds_toArray, List.set_cons_zero, List.set_cons_succ]
            refine wpAnyL_take (i := 11) 12 (oi := _) (v := ?_) rfl (by kernel_rfl) (by kernel_rfl) (by kernel_rfl) (by kernel_rfl) (fun _ _ _ h => h) (Or.inl ⟨by rfl, ?_⟩) (by assumption) ?_
            rotate_left
            · (intro w hSw; (try dsimp only at hSw); go_simp; try with_reducible rfl)
            try simp only [Act.put, List.getElem_toArray, List.getElem_cons_zero, List.getElem_cons_succ, List.setIfInBounds_toArray, List.set_cons_zero, List.set_cons_succ]
            refine wpAnyL_take (i := 12) 13 (oi := _) (v := ?_) rfl (by kernel_rfl) (by kernel_rfl) (by kernel_rfl) (by kernel_rfl) (fun _ _ _ h => h) (Or.inl ⟨by rfl, ?_⟩) (by assumption) ?_
            rotate_left
            · (intro w hSw; (try dsimp only at hSw); go_simp; try with_reducible rfl)
            try simp only [Act.put, List.getElem_toArray, List.getElem_cons_zero, List.getElem_cons_succ, List.setIfInBounds_toArray, List.set_cons_zero, List.set_cons_succ]
            refine wpAnyL_take (i := 13) 14 (oi := _) (v := ?_) rfl (by kernel_rfl) (by kernel_rfl) (by kernel_rfl) (by kernel_rfl) (fun _ _ _ h => h) (Or.inl ⟨by rfl, ?_⟩) (by assumption) ?_
            rotate_left
            · (intro w hSw; (try dsimp only at hSw); go_simp; try with_reducible rfl)
            try simp only [Act.put, List.getElem_toArray, List.getElem_cons_zero, List.getElem_cons_succ, List.setIfInBounds_toArray, List.set_cons_zero, List.set_cons_succ]
            refine wpAnyL_take (i := 14) 15 (oi := _) (v := ?_) rfl (by kernel_rfl) (by kernel_rfl) (by kernel_rfl) (by kernel_rfl) (fun _ _ _ h => h) (Or.inl ⟨by rfl, ?_⟩) (by assumption) ?_
            rotate_left
            · (intro w hSw; (try dsimp only at hSw); go_simp; try with_reducible rfl)
            try simp only [Act.put, List.getElem_toArray, List.getElem_cons_zero, List.getElem_cons_succ, List.setIfInBounds_toArray, List.set_cons_zero, List.set_cons_succ]
            have hsd := HST.out.drew
            generalize World.drew _ = W3 at hsd hHeld ⊢
            refine wpAnyL_one (i := 15) (o := _) (by kernel_rfl) rfl (fun K hK => ?_)
            go_simp
            have hsr := hsd.litSrcV (P := Try.prog) (t := 54) (e := 67) (cs := #[.int .u32 y.src, .int .u8 y.seq]) (n := 1) (size := 2) rfl (by decide) Try.underlying54 (by simp [Value.oneCell'])
            have hsg := hsd.grow (.cells #[.int .u32 y.src, .int .u8 y.seq] 67)
            try clear hHeld
            refine hK.out _ _ (HSS.out _ _ (by simp [e2]) (by simp [e2]) hsg) (fun hHeld => ?_)
            clear hK K
            try simp only [Act.put, List.getElem_toArray, List.getElem_cons_zero, List.getElem_cons_succ, List.setIfInBounds_toArray, List.set_cons_zero, List.set_cons_succ]
            obtain ⟨i0, hi0, hz0, hz1, hz2⟩ := info_parts info67
            have HBW := Lib.hid (show wants.length * 8 ≤ 140737488351232 from HIN.out.2.2.2.2.bw)
            refine wpAnyL_one (i := 16) (o := _) (by kernel_rfl) rfl (fun K hK => ?_)
            refine step_append_src _ (by rfl) _ _ 54 54 (by rfl) 0 67 i0 (.agg #[.int .u32 0, .int .u8 0]) 2 8 Try.underlying54 hi0 hz0 hz1 hz2 rfl _ k (flat wnC (wants.take k)) (by rfl) hsg.head _ 1 _ (by rfl) hsr (by have := HBW.out; unfold maxLen; omega) (by have := HBW.out; omega) (Nat.zero_le _) ?_
            intro v' w5 hown' hgrow hat
            have hown2 : w5.ownsRow 0 67 2 v' (k + 1) (flat wnC (wants.take (k + 1))) := by rw [HTK.out]; exact hown'
            obtain ⟨A10, c10, rfl⟩ := own_form hown2
            have hs5 := hsg.grown hgrow hown2 (by simpa using hat)
            try clear hHeld
            refine hK.out _ _ (HSS.out _ _ (by simp [e2]) (by simp [e2]) hs5) (fun hHeld => ?_)
            clear hK K
            try simp only [Act.put, List.getElem_toArray, List.getElem_cons_zero, List.getElem_cons_succ, List.setIfInBounds_toArray, List.set_cons_zero, List.set_cons_succ]
            refine wpAnyL_take (i := 17) 18 (oi := _) (v := ?_) rfl (by kernel_rfl) (by kernel_rfl) (by kernel_rfl) (by kernel_rfl) (fun _ _ _ h => h) (Or.inl ⟨by rfl, ?_⟩) (by assumption) ?_
            rotate_left
            · (intro w hSw; (try dsimp only at hSw); go_simp; try with_reducible rfl)
            try simp only [Act.put, List.getElem_toArray, List.getElem_cons_zero, List.getElem_cons_succ, List.setIfInBounds_toArray, List.set_cons_zero, List.set_cons_succ]
            have HS6 := Lib.hid (show St J2 (row 67 2 (.slice A10 (k + 1) c10) (k + 1) (flat wnC (wants.take (k + 1))) :: bk p 56 #[.int .i64 kind, .int .u32 sender, .int .u32 media, .int .u64 ntp, .int .u32 rtp, .int .u32 pkts, .int .u32 octs, (.slice B2 reps.length d2), .string name, .slice sA srcs.length sz, .slice qA seqs.length qz, .int .u16 base, .int .u32 ref, .int .u8 count, .slice aA arrs.length az, (.slice A10 (k + 1) c10)] :: bk q 51 #[.int .i64 kind, .int .u32 sender, .int .u32 media, .int .u64 ntp, .int .u32 rtp, .int .u32 pkts, .int .u32 octs, .slice rA reps.length rz, .string name, .slice sA srcs.length sz, .slice qA seqs.length qz, .int .u16 base, .int .u32 ref, .int .u8 count, .slice aA arrs.length az, .slice wA wants.length wz] :: row 56 16 (.slice B i c) i (flat pvC qs) :: M) (w5.setCell ⟨p, 15, none⟩ (.slice A10 (k + 1) c10)) from ((hs5.swap1.set 15 (.slice A10 (k + 1) c10)).swap1))
            obtain ⟨hp, fp, lp⟩ := Blk.all (hs5.at 1 rfl)
            refine wpAnyL_last (i := 18) (o := _) (by kernel_rfl) rfl (by kernel_rfl) (by kernel_rfl) (fun K hK => ?_)
            go_simp
            try clear hHeld
            refine hK.out _ _ ?_
            clear hK K
            try simp only [Act.put, List.getElem_toArray, List.getElem_cons_zero, List.getElem_cons_succ, List.setIfInBounds_toArray, List.set_cons_zero, List.set_cons_succ]
            have HK1 := Lib.hid (show k + 1 ≤ wants.length from hkl)
            have hkb : (k : Int) ≤ 140737488351232 := by have := HBW.out; omega
            clear hs5 hown' hown2 hgrow hat hsr hsg hsd hp fp lp
            rw [← HE2.out]
            clear e2
            go_wp2
            go_roundw
            case rel => exact ⟨k + 1, A10, c10, by go_num, HK1.out, HS6⟩
            case measure => have := HK1.out; simp [intOf]; omega
          have hke : k = wants.length := by omega
          subst hke
          rw [List.take_length] at hs
          obtain ⟨J3, hle3, hs6, hcr⟩ := hs.freezeRow
          have hcap := (own_cap (show World.ownsRow _ 0 67 2 (.slice B3 wants.length d3) wants.length _ from hs.at 0 rfl)).2
          have HWP := Lib.hid (And.intro hcr (And.intro hcap hle3))
          have HS := Lib.hid hs6
          clear hs hs6 hcr hcap hle3 hcq hfq hlq hkl
          obtain ⟨hcq, hfq, hlq⟩ := Blk.all (HS.out.at 0 rfl)
          have hsd := HS.out.swap2.grow (.cells #[.int .i64 kind, .int .u32 sender, .int .u32 media, .int .u64 ntp, .int .u32 rtp, .int .u32 pkts, .int .u32 octs, (.slice B2 reps.length d2), .string name, .slice sA srcs.length sz, .slice qA seqs.length qz, .int .u16 base, .int .u32 ref, .int .u8 count, .slice aA arrs.length az, (.slice B3 wants.length d3)] 56)
          have hsr := HS.out.litSrcV (P := Try.prog) (t := 22) (e := 56) (cs := #[.int .i64 kind, .int .u32 sender, .int .u32 media, .int .u64 ntp, .int .u32 rtp, .int .u32 pkts, .int .u32 octs, (.slice B2 reps.length d2), .string name, .slice sA srcs.length sz, .slice qA seqs.length qz, .int .u16 base, .int .u32 ref, .int .u8 count, .slice aA arrs.length az, (.slice B3 wants.length d3)]) (n := 1) (size := 16) rfl (by decide) Try.underlying22 (by simp [Value.oneCell'])
          obtain ⟨i0, hi0, hz0, hz1, hz2⟩ := info_parts info56
          go_wp2_with (at_builtin; refine wpList_append_src _ rfl _ _ 22 22 rfl 0 56 i0 (.agg Z51) 16 192 Try.underlying22 hi0 hz0 hz1 hz2 rfl _ i (flat pvC qs) rfl hsd.head _ 1 _ rfl hsr (by unfold maxLen; omega) (by omega) (Nat.zero_le _) ?_)
          intro v' w5 hown' hgrow hat
          have hown2 : w5.ownsRow 0 56 16 v' (i + 1) (flat pvC (qs ++ [((⟨kind, sender, media, ntp, rtp, pkts, octs, reps, name, srcs, seqs, base, ref, count, arrs, wants⟩ : Pk), (⟨.slice B2 reps.length d2, .slice sA srcs.length sz, .slice qA seqs.length qz, .slice aA arrs.length az, .slice B3 wants.length d3⟩ : Vs))])) := by rw [flat_append]; simpa [flat] using hown'
          obtain ⟨A11, c11, rfl⟩ := own_form hown2
          have HS7 := Lib.hid (hsd.grown hgrow hown2 (by simpa using hat)).swap2.drop.drop
          clear hsd hsr hown' hown2 hgrow hat hcq hfq hlq
          go_wp2
          go_roundw
          case rel =>
            have hLL := HRP.out.2.2.trans HWP.out.2.2
            refine ⟨i + 1, A11, c11, rfl, by go_num, by omega, Lib.hid ⟨J3, qs ++ [((⟨kind, sender, media, ntp, rtp, pkts, octs, reps, name, srcs, seqs, base, ref, count, arrs, wants⟩ : Pk), (⟨.slice B2 reps.length d2, .slice sA srcs.length sz, .slice qA seqs.length qz, .slice aA arrs.length az, .slice B3 wants.length d3⟩ : Vs))], HLE.out.trans hLL, ?_, ?_, ?_, ?_⟩⟩
            · exact HS7.out
            · rw [List.length_append, HIN.out.1]; rfl
            · rw [HIN.out.2.2.2.1, ← HIN.out.2.1]
              simp [pks]
            · intro x hx
              rcases List.mem_append.1 hx with hx | hx
              · exact ⟨(HIN.out.2.2.1 x hx).1.mono hLL, (HIN.out.2.2.1 x hx).2⟩
              · rw [List.mem_singleton.1 hx]
                have hM := HRP.out.2.2.trans HWP.out.2.2
                exact ⟨⟨⟨B2, d2, rfl, HRP.out.1.mono HWP.out.2.2, HRP.out.2.1⟩, ⟨sA, sz, rfl, HCC.out.2.1.mono hM, HKK.out.2.1⟩, ⟨qA, qz, rfl, HCC.out.2.2.1.mono hM, HKK.out.2.2.1⟩, ⟨aA, az, rfl, HCC.out.2.2.2.1.mono hM, HKK.out.2.2.2.1⟩, ⟨B3, d3, rfl, HWP.out.1, HWP.out.2.1⟩⟩, HIN.out.2.2.2.2⟩
          case measure => simp [intOf]; omega
    · have hie : i = ps.length := by omega
      subst hie
      rw [List.take_of_length_le (by omega)] at hqs
      have hs2 : St J (row 56 16 (.slice B ps.length c) ps.length (flat pvC qs) :: M) wr := hs
      obtain ⟨J4, hle4, hs6, hcr⟩ := hs2.freezeRow
      have HF := Lib.hid (show ∃ J B' c' qs, (Ending.returned (.slice B ps.length c)) = .returned (.slice B' ps.length c') ∧ I.le J ∧ St J M wr ∧ Pks J B' qs ∧ pks qs = pks ps from ⟨J4, B, c, qs, rfl, hle.trans hle4, hs6, ⟨hcr, fun x hx => ⟨(hqe x hx).1.mono hle4, (hqe x hx).2⟩, by omega⟩, hqs⟩)
      clear hs hs2 hs6 hcr hqe hqs
      go_wp2
      go_returns
      exact HF.out
end Go.Proofs.Ytddopbbmgpnjjaa
