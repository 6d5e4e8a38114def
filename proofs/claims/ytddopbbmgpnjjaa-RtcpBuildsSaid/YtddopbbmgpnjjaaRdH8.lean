/- the document's build of a packet of kind 8. -/
import Derived.Test.YtddopbbmgpnjjaaRdH
namespace Go.Proofs.Ytddopbbmgpnjjaa
open Go.RowKit
set_option linter.unusedSimpArgs false

set_option maxRecDepth 100000 in
set_option maxHeartbeats 40000000 in
theorem build5 (I : Img) (M : List Res) (w : World) (sender : Int) (media : Int) (ntp : Int) (rtp : Int) (pkts : Int) (octs : Int) (base : Int) (ref : Int) (count : Int) (name : ByteArray) (reps : List Rp) (srcs seqs arrs : List Int) (wants : List Wn) (rA : Option Addr) (rz : Nat) (sA : Option Addr) (sz : Nat) (qA : Option Addr) (qz : Nat) (aA : Option Addr) (az : Nat) (wA : Option Addr) (wz : Nat) (cr : Cells I rA (flat repC reps)) (cs : Cells I sA (flat u32C srcs)) (cq : Cells I qA (flat u16C seqs)) (ca : Cells I aA (flat intC arrs)) (cw : Cells I wA (flat wnC wants)) (hok : PkOk (⟨5, sender, media, ntp, rtp, pkts, octs, reps, name, srcs, seqs, base, ref, count, arrs, wants⟩ : Pk)) (hg : Good (⟨5, sender, media, ntp, rtp, pkts, octs, reps, name, srcs, seqs, base, ref, count, arrs, wants⟩ : Pk)) (hst : St I M w) :
    Calls Try.prog 18 #[.agg #[.int .i64 5, .int .u32 sender, .int .u32 media, .int .u64 ntp, .int .u32 rtp, .int .u32 pkts, .int .u32 octs, .slice rA reps.length rz, .string name, .slice sA srcs.length sz, .slice qA seqs.length qz, .int .u16 base, .int .u32 ref, .int .u8 count, .slice aA arrs.length az, .slice wA wants.length wz]] w (Bui I M (⟨5, sender, media, ntp, rtp, pkts, octs, reps, name, srcs, seqs, base, ref, count, arrs, wants⟩ : Pk)) := by
  have hs1 := hst.alloc 56 #[.int .i64 5, .int .u32 sender, .int .u32 media, .int .u64 ntp, .int .u32 rtp, .int .u32 pkts, .int .u32 octs, .slice rA reps.length rz, .string name, .slice sA srcs.length sz, .slice qA seqs.length qz, .int .u16 base, .int .u32 ref, .int .u8 count, .slice aA arrs.length az, .slice wA wants.length wz]
  have HOK := Lib.hid hok
  have HGD := Lib.hid hg
  have hbl := body_len hg
  obtain ⟨n1, n2, n3, n4, n5, n6⟩ := good_lens hg
  have HLOW := Lib.hid (lowP_ok hg)
  simp only [] at n1 n2 n3 n4 n5 n6
  have HCR := Lib.hid cr
  have HCS := Lib.hid cs
  have HCW := Lib.hid cw
  have HCQ := Lib.hid cq
  have HCA := Lib.hid ca
  clear cr cs cq ca cw hok hg hst
  obtain ⟨B, hB⟩ : ∃ B, B = bodyL (⟨5, sender, media, ntp, rtp, pkts, octs, reps, name, srcs, seqs, base, ref, count, arrs, wants⟩ : Pk) := ⟨_, rfl⟩
  rw [← hB] at hbl
  obtain ⟨low, hlow⟩ : ∃ low, low = lowP (⟨5, sender, media, ntp, rtp, pkts, octs, reps, name, srcs, seqs, base, ref, count, arrs, wants⟩ : Pk) := ⟨_, rfl⟩
  obtain ⟨q, hq⟩ : ∃ q, q = w.heap.size := ⟨_, rfl⟩
  rw [← hq] at hs1
  have HBE := Lib.hid hB
  have HLE0 := Lib.hid hlow
  clear hB hlow
  go_enter Try.func18, Try.ntmps18
  go_upto_region 1 with fail
  rw [← hq]
  clear hq
  generalize World.alloc w _ = W at hs1 ⊢
  obtain ⟨hc1, hf1, hl1⟩ := Blk.all (hs1.at 0 rfl)
  have HST := Lib.hid hs1
  clear hs1
  go_upto_region 29 with fail
  clear hc1 hf1 hl1
  have HSS := Lib.hid (fun (J : Img) (w' : World) (_ : I.le J) (hs : St J (bk q 56 #[.int .i64 5, .int .u32 sender, .int .u32 media, .int .u64 ntp, .int .u32 rtp, .int .u32 pkts, .int .u32 octs, .slice rA reps.length rz, .string name, .slice sA srcs.length sz, .slice qA seqs.length qz, .int .u16 base, .int .u32 ref, .int .u8 count, .slice aA arrs.length az, .slice wA wants.length wz] :: M) w') => (show ∀ i, w'.cell? ⟨q, i, none⟩ = (#[.int .i64 5, .int .u32 sender, .int .u32 media, .int .u64 ntp, .int .u32 rtp, .int .u32 pkts, .int .u32 octs, .slice rA reps.length rz, .string name, .slice sA srcs.length sz, .slice qA seqs.length qz, .int .u16 base, .int .u32 ref, .int .u8 count, .slice aA arrs.length az, .slice wA wants.length wz] : Array Value)[i]? from (Blk.all (hs.at 0 rfl)).1))
  have HLB := Lib.hid (show (piecesB seqs).length ≤ 128 by have := piecesB_le _ seqs (Nat.le_refl _); omega)
  have HORD := Lib.hid (show Ord seqs by rcases HGD.out.1 with h | h | h | h | h | h | h <;> simp at h; exact h.1)
  refine wp_region_held_drew (S := fun w' => ∀ i, w'.cell? ⟨q, i, none⟩ = (#[.int .i64 5, .int .u32 sender, .int .u32 media, .int .u64 ntp, .int .u32 rtp, .int .u32 pkts, .int .u32 octs, .slice rA reps.length rz, .string name, .slice sA srcs.length sz, .slice qA seqs.length qz, .int .u16 base, .int .u32 ref, .int .u8 count, .slice aA arrs.length az, .slice wA wants.length wz] : Array Value)[i]?) (by kernel_rfl) (HSS.out _ _ (.refl _) HST.out.drew) (fun hHeld => ?_)
  refine wpAnyH_take (i := 0) (oi := _) (v := ?_) rfl (by kernel_rfl) (by kernel_rfl) (by kernel_rfl) (fun _ _ _ h => h) (Or.inl ⟨by rfl, ?_⟩) (by assumption) ?_
  rotate_left
  · (intro w hSw; (try dsimp only at hSw); go_simp; try with_reducible rfl)
  try simp only [Act.put, List.getElem_toArray, List.getElem_cons_zero, List.getElem_cons_succ, List.setIfInBounds_toArray, List.set_cons_zero, List.set_cons_succ]
  refine wpAnyH_take (i := 1) (oi := _) (v := ?_) rfl (by kernel_rfl) (by kernel_rfl) (by kernel_rfl) (fun _ _ _ h => h) (Or.inl ⟨by rfl, ?_⟩) (by assumption) ?_
  rotate_left
  · (intro w hSw; (try dsimp only at hSw); go_simp; try with_reducible rfl)
  try simp only [Act.put, List.getElem_toArray, List.getElem_cons_zero, List.getElem_cons_succ, List.setIfInBounds_toArray, List.set_cons_zero, List.set_cons_succ]
  refine wpAnyH_take (i := 3) (oi := _) (v := ?_) rfl (by kernel_rfl) (by kernel_rfl) (by kernel_rfl) (fun _ _ _ h => h) (Or.inl ⟨by rfl, ?_⟩) (by assumption) ?_
  rotate_left
  · (intro w hSw; (try dsimp only at hSw); go_simp; try with_reducible rfl)
  try simp only [Act.put, List.getElem_toArray, List.getElem_cons_zero, List.getElem_cons_succ, List.setIfInBounds_toArray, List.set_cons_zero, List.set_cons_succ]
  refine wpAnyH_take (i := 4) (oi := _) (v := ?_) rfl (by kernel_rfl) (by kernel_rfl) (by kernel_rfl) (fun _ _ _ h => h) (Or.inl ⟨by rfl, ?_⟩) (by assumption) ?_
  rotate_left
  · (intro w hSw; (try dsimp only at hSw); go_simp; try with_reducible rfl)
  try simp only [Act.put, List.getElem_toArray, List.getElem_cons_zero, List.getElem_cons_succ, List.setIfInBounds_toArray, List.set_cons_zero, List.set_cons_succ]
  refine wpAnyH_take (i := 6) (oi := _) (v := ?_) rfl (by kernel_rfl) (by kernel_rfl) (by kernel_rfl) (fun _ _ _ h => h) (Or.inl ⟨by rfl, ?_⟩) (by assumption) ?_
  rotate_left
  · (intro w hSw; (try dsimp only at hSw); go_simp; try with_reducible rfl)
  try simp only [Act.put, List.getElem_toArray, List.getElem_cons_zero, List.getElem_cons_succ, List.setIfInBounds_toArray, List.set_cons_zero, List.set_cons_succ]
  refine wpAnyH_take (i := 7) (oi := _) (v := ?_) rfl (by kernel_rfl) (by kernel_rfl) (by kernel_rfl) (fun _ _ _ h => h) (Or.inl ⟨by rfl, ?_⟩) (by assumption) ?_
  rotate_left
  · (intro w hSw; (try dsimp only at hSw); go_simp; try with_reducible rfl)
  try simp only [Act.put, List.getElem_toArray, List.getElem_cons_zero, List.getElem_cons_succ, List.setIfInBounds_toArray, List.set_cons_zero, List.set_cons_succ]
  refine anyH_ro (I := I) (M := bk q 56 #[.int .i64 5, .int .u32 sender, .int .u32 media, .int .u64 ntp, .int .u32 rtp, .int .u32 pkts, .int .u32 octs, .slice rA reps.length rz, .string name, .slice sA srcs.length sz, .slice qA seqs.length qz, .int .u16 base, .int .u32 ref, .int .u8 count, .slice aA arrs.length az, .slice wA wants.length wz] :: M) (l := [(2, 126, u32B sender), (5, 129, u32B media), (8, 132, piecesB seqs)]) 3 (by kernel_rfl) (by simp only [List.map_cons, List.map_nil]; decide) (by simp only [List.map_cons, List.map_nil]; decide) HSS.out HST.out.drew ?_ ?_
  · refine List.forall_mem_cons.2 ⟨?_, List.forall_mem_cons.2 ⟨?_, List.forall_mem_cons.2 ⟨?_, fun _ h => by cases h⟩⟩⟩
    · refine CdStep.call (o := _) rfl rfl rfl rfl (fun _ _ => rfl) ?_ (fun J w hle hs => (four_frz J _ w (sender) (HOK.out.sender) hs).mono (fun _ _ h => h))
      intro xf; simp [Act.over, setAll, Act.eval]
    · refine CdStep.call (o := _) rfl rfl rfl rfl (fun _ _ => rfl) ?_ (fun J w hle hs => (four_frz J _ w (media) (HOK.out.media) hs).mono (fun _ _ h => h))
      intro xf; simp [Act.over, setAll, Act.eval]
    · refine CdStep.call (o := _) rfl rfl rfl rfl (fun _ _ => rfl) ?_ (fun J w hle hs => (piecesR J _ w qA qz seqs (HCQ.out.mono hle) HOK.out.seqs n3 HORD.out hs).mono (fun _ _ h => h))
      intro xf; simp [Act.over, setAll, Act.eval]
  · intro xf J w hle hs hx
    have r0 : RoB (u32B sender) (xf 126) J := hx (2, 126, u32B sender) (by simp)
    have r1 : RoB (u32B media) (xf 129) J := hx (5, 129, u32B media) (by simp)
    have r2 : RoB (piecesB seqs) (xf 132) J := hx (8, 132, piecesB seqs) (by simp)
    simp only [List.map_cons, List.map_nil, Act.over, setAll, List.foldl_cons, List.foldl_nil, List.setIfInBounds_toArray, List.set_cons_zero, List.set_cons_succ]
    generalize xf 126 = v126 at *
    obtain ⟨A126, c126, rfl, b126⟩ := r0
    generalize xf 129 = v129 at *
    obtain ⟨A129, c129, rfl, b129⟩ := r1
    generalize xf 132 = v132 at *
    obtain ⟨A132, c132, rfl, b132⟩ := r2
    clear hx
    refine wpAnyH_ready (rs := [9]) (by kernel_rfl) (by simp) ?_
    refine AllReadyH.cons (o := _) rfl (fun K hK => ?_) AllReadyH.nil
    go_simp
    try clear hHeld
    refine hK.out _ _ (HSS.out J _ hle (hs.grow _)) (fun hHeld => ?_)
    clear hK K
    try simp only [Act.put, List.getElem_toArray, List.getElem_cons_zero, List.getElem_cons_succ, List.setIfInBounds_toArray, List.set_cons_zero, List.set_cons_succ]
    obtain ⟨J2, hle2, hs2, hobj⟩ := (hs.alloc 24 #[.slice A126 (u32B sender).length c126, .slice A129 (u32B media).length c129, .slice A132 (piecesB seqs).length c132]).freezeBlk
    have hcs := Cells.ofBlk hobj
    refine wpAnyH_ready (rs := [10]) (by kernel_rfl) (by simp) ?_
    refine AllReadyH.cons (o := _) rfl (fun K hK => ?_) AllReadyH.nil
    go_simp
    go_at_call 35
    refine (joinR J2 (bk q 56 #[.int .i64 5, .int .u32 sender, .int .u32 media, .int .u64 ntp, .int .u32 rtp, .int .u32 pkts, .int .u32 octs, .slice rA reps.length rz, .string name, .slice sA srcs.length sz, .slice qA seqs.length qz, .int .u16 base, .int .u32 ref, .int .u8 count, .slice aA arrs.length az, .slice wA wants.length wz] :: M) _ (some ⟨w.heap.size, 0, none⟩) 3 [u32B sender, u32B media, piecesB seqs] [.slice A126 (u32B sender).length c126, .slice A129 (u32B media).length c129, .slice A132 (piecesB seqs).length c132] hcs ⟨⟨A126, c126, rfl, b126.mono hle2⟩, ⟨A129, c129, rfl, b129.mono hle2⟩, ⟨A132, c132, rfl, b132.mono hle2⟩, trivial⟩ (by simp) (by have := HLB.out; simp only [List.flatten_cons, List.flatten_nil, List.length_append, List.length_cons, List.length_nil, u32B_len, u16B_len]; omega) hs2).mono ?_
    rintro e w3 ⟨_, _, _, rfl, _, hs3, rfl, A3, c3, rfl, hc3, rfl⟩
    obtain ⟨fl, hfl⟩ : ∃ z : List UInt8, z = ([u32B sender, u32B media, piecesB seqs] : List (List UInt8)).flatten := ⟨_, rfl⟩
    rw [← hfl] at hs3 hc3 ⊢
    have HFLAT := Lib.hid hfl
    clear hfl
    try clear hHeld
    refine hK.out _ _ (HSS.out J2 _ (hle.trans hle2) hs3.drop) (fun hHeld => ?_)
    clear hK K
    try simp only [Act.put, List.getElem_toArray, List.getElem_cons_zero, List.getElem_cons_succ, List.setIfInBounds_toArray, List.set_cons_zero, List.set_cons_succ]
    refine wpAnyH_take (i := 11) (oi := _) (v := ?_) rfl (by kernel_rfl) (by kernel_rfl) (by kernel_rfl) (fun _ _ _ h => h) (Or.inl ⟨by rfl, ?_⟩) (by assumption) ?_
    rotate_left
    · (intro w hSw; (try dsimp only at hSw); go_simp; try with_reducible rfl)
    try simp only [Act.put, List.getElem_toArray, List.getElem_cons_zero, List.getElem_cons_succ, List.setIfInBounds_toArray, List.set_cons_zero, List.set_cons_succ]
    refine wpAnyH_done (by kernel_rfl) ?_ _
    have hbq : fl = B := by rw [HFLAT.out, HBE.out]; exact body5 HGD.out
    subst hbq
    have HS := Lib.hid hs3
    have HLE := Lib.hid (hle.trans hle2)
    clear hs hs2 hs3 hHeld hle hle2 hcs hobj HFLAT
    generalize A3 = A4 at *
    go_upto_region 36 with fail
    go_loopw [3] (fun bv wr => ∃ (A : Option Addr) (n c : Nat), bv = .slice A n c ∧ n ≤ 4000 ∧ Hid (∃ (j : Nat) (J : Img), n = fl.length + j ∧ j ≤ (4 - fl.length % 4) % 4 ∧ I.le J ∧ St J (row 5 1 (.slice A n c) n (bvs (fl ++ List.replicate j 0)) :: bk q 56 #[.int .i64 5, .int .u32 sender, .int .u32 media, .int .u64 ntp, .int .u32 rtp, .int .u32 pkts, .int .u32 octs, .slice rA reps.length rz, .string name, .slice sA srcs.length sz, .slice qA seqs.length qz, .int .u16 base, .int .u32 ref, .int .u8 count, .slice aA arrs.length az, .slice wA wants.length wz] :: M) wr)) (fun bv _ => (4 - sliceLen bv % 4) % 4)
    case atStart => exact ⟨_, _, _, rfl, by omega, Lib.hid ⟨0, J2, rfl, Nat.zero_le _, HLE.out, by simpa using HS.out⟩⟩
    case round =>
      obtain ⟨A, n, c, rfl, hn, hh⟩ := hrel
      obtain ⟨j, J, hnj, hj, hle, hs⟩ := hh.out
      clear hh HS HLE
      have hln : (fl ++ List.replicate j 0).length = n := by rw [hnj]; simp
      have HLN := Lib.hid hln
      have HRP := Lib.hid (rep_snoc j)
      have HNJ := Lib.hid hnj
      by_cases hlt : j < (4 - fl.length % 4) % 4
      · have hm : ((n : Int) % 4 != 0) = true := by rw [bne_iff_ne]; omega
        obtain ⟨J3, hle3, hs3, hobj⟩ := (hs.alloc 5 #[.int .u8 0]).freezeBlk
        have HB1 := Lib.hid (show RoB [0] (.slice (some ⟨wr.heap.size, 0, none⟩) 1 1) J3 from ⟨_, 1, rfl, Byts.ofBlk hobj rfl⟩)
        obtain ⟨bl, hbe⟩ : ∃ bl, bl = fl ++ List.replicate j 0 := ⟨_, rfl⟩
        rw [← hbe] at hs3 hln
        rw [← hln] at hs3
        have HBL := Lib.hid hbe
        have HS3 := Lib.hid hs3
        have HLE := Lib.hid (hle.trans hle3)
        have HLT := Lib.hid hlt
        have HLL := Lib.hid hln
        clear hbe hle hle3 hs hs3 hobj hnj hj hln hlt
        go_wp2_with (at_builtin; refine wpList_appB rfl _ _ rfl J3 _ _ _ _ _ (by rw [HLL.out]; rfl) rfl HS3.out HB1.out (by have := HLL.out; simp only [List.length_cons, List.length_nil]; omega) ?_)
        intro v3 w3 hs4
        obtain ⟨A5, c5, rfl⟩ := own_form (show World.ownsRow _ 0 5 1 v3 _ _ from St.at hs4 0 rfl)
        have hl5 : (bl ++ [0]).length = n + 1 := by rw [List.length_append, HLL.out]; rfl
        have hs5 := show St J3 _ w3 from hs4
        rw [hl5] at hs5 ⊢
        have HS5 := Lib.hid hs5
        clear hs4 hs5 HS3 HB1 hl5
        go_wp2
        go_roundw
        case rel =>
          refine ⟨A5, n + 1, c5, rfl, by have := HLT.out; have := HNJ.out; omega, Lib.hid ⟨j + 1, J3, by have := HNJ.out; omega, by have := HLT.out; omega, HLE.out, ?_⟩⟩
          have := HS5.out
          rw [HBL.out, List.append_assoc, ← HRP.out] at this
          exact this
        case measure =>
          have h1 := HNJ.out
          have h2 := HLT.out
          show (4 - (n + 1) % 4) % 4 < (4 - n % 4) % 4
          omega
      · have hm : ((n : Int) % 4 != 0) = false := by rw [bne_eq_false_iff_eq]; omega
        have hjj : j = (4 - fl.length % 4) % 4 := by omega
        rw [hjj, even_rep] at hs hln
        obtain ⟨E, hE⟩ : ∃ E, E = evenL fl := ⟨_, rfl⟩
        rw [← hE] at hs hln
        have HE := Lib.hid hE
        obtain ⟨J3, hle3, hs3, hb3⟩ := hs.freezeRow
        have HS3 := Lib.hid hs3
        have HB3 := Lib.hid (show Byts J3 A E from hb3)
        have HLE := Lib.hid (hle.trans hle3)
        have HLL := Lib.hid hln
        clear hs hs3 hb3 hle hle3 hE hln hnj hj hjj hlt
        have HV := Lib.hid (show [byteOf (129), byteOf 205] ++ u16B ((E.length / 4 : Nat) : Int) ++ E = packB (⟨5, sender, media, ntp, rtp, pkts, octs, reps, name, srcs, seqs, base, ref, count, arrs, wants⟩ : Pk) by
          have e1 : 128 + low = 129 := by rw [HLE0.out]; rfl
          rw [← e1, HLE0.out, HE.out, HBE.out]
          rfl)
        obtain ⟨J4, hle4, hs4, hobj⟩ := (HS3.out.alloc 5 #[.int .u8 (129), .int .u8 205]).freezeBlk
        have HB4 := Lib.hid (show Byts J4 (some ⟨wr.heap.size, 0, none⟩) [byteOf (129), byteOf 205] from Byts.ofBlk hobj (lit_two (by omega) (by omega)))
        have HT := Lib.hid (twoR J4 _ _ ((n : Int) / 4) hs4)
        have HLE4 := Lib.hid hle4
        clear hle4 hs4 hobj HS3
        go_wp2_with fail
        go_at_call 39
        refine HT.out.mono ?_
        clear HT
        rintro e w2 ⟨_, _, _, rfl, _, hs1, rfl, A6, c6, rfl, hc6, rfl⟩
        obtain ⟨J5, hle5, hs5, hb5⟩ := hs1.freezeRow
        have hb5 : Byts J5 A6 (u16B ((n : Int) / 4 % 65536)) := hb5
        obtain ⟨J6, hle6, hs6, hobj⟩ := (hs5.alloc 24 #[.slice (some ⟨wr.heap.size, 0, none⟩) 2 2, .slice A6 (u16B ((n : Int) / 4 % 65536)).length c6, .slice A n c]).freezeBlk
        have hcs := Cells.ofBlk hobj
        have HJ := Lib.hid (joinR J6 (bk q 56 #[.int .i64 5, .int .u32 sender, .int .u32 media, .int .u64 ntp, .int .u32 rtp, .int .u32 pkts, .int .u32 octs, .slice rA reps.length rz, .string name, .slice sA srcs.length sz, .slice qA seqs.length qz, .int .u16 base, .int .u32 ref, .int .u8 count, .slice aA arrs.length az, .slice wA wants.length wz] :: M) _ (some ⟨w2.heap.size, 0, none⟩) 3 [[byteOf (129), byteOf 205], u16B ((n : Int) / 4 % 65536), E] [.slice (some ⟨wr.heap.size, 0, none⟩) 2 2, .slice A6 (u16B ((n : Int) / 4 % 65536)).length c6, .slice A n c] hcs ⟨⟨_, 2, rfl, (HB4.out.mono hle5).mono hle6⟩, ⟨A6, c6, rfl, hb5.mono hle6⟩, ⟨A, c, by rw [HLL.out], ((HB3.out.mono HLE4.out).mono hle5).mono hle6⟩, trivial⟩ (by simp) (by have := HLL.out; simp only [List.flatten_cons, List.flatten_nil, List.length_append, List.length_cons, List.length_nil, u16B_len]; omega) hs6)
        have HL := Lib.hid (((HLE.out.trans HLE4.out).trans hle5).trans hle6)
        clear hs1 hs5 hs6 hb5 hc6 hobj hcs hle5 hle6 HB3 HB4
        go_wp2_with fail
        go_at_call 35
        refine HJ.out.mono ?_
        clear HJ
        rintro e w4 ⟨_, _, _, rfl, _, hs7, rfl, A7, c7, rfl, hc7, rfl⟩
        have HPE := Lib.hid (show ([[byteOf (129), byteOf 205], u16B ((n : Int) / 4 % 65536), E] : List (List UInt8)).flatten = packB (⟨5, sender, media, ntp, rtp, pkts, octs, reps, name, srcs, seqs, base, ref, count, arrs, wants⟩ : Pk) by
          rw [← HV.out, HLL.out]
          have e2 : (n : Int) / 4 % 65536 = ((n / 4 : Nat) : Int) := by omega
          rw [e2]
          simp)
        rw [HPE.out] at hs7 hc7 ⊢
        have HF := Lib.hid (show Bui I M (⟨5, sender, media, ntp, rtp, pkts, octs, reps, name, srcs, seqs, base, ref, count, arrs, wants⟩ : Pk) (.returned _) w4 from Ret.mk HL.out (St.swap1 hs7).drop ⟨A7, c7, rfl, rfl⟩)
        clear hs7 hc7 HPE HV
        generalize packB (⟨5, sender, media, ntp, rtp, pkts, octs, reps, name, srcs, seqs, base, ref, count, arrs, wants⟩ : Pk) = pbs at *
        go_wp2
        go_returns
        exact HF.out
end Go.Proofs.Ytddopbbmgpnjjaa
namespace Go.Proofs.Ytddopbbmgpnjjaa
open Go.RowKit
set_option linter.unusedSimpArgs false

set_option maxRecDepth 100000 in
set_option maxHeartbeats 40000000 in
theorem build6 (I : Img) (M : List Res) (w : World) (sender : Int) (media : Int) (ntp : Int) (rtp : Int) (pkts : Int) (octs : Int) (base : Int) (ref : Int) (count : Int) (name : ByteArray) (reps : List Rp) (srcs seqs arrs : List Int) (wants : List Wn) (rA : Option Addr) (rz : Nat) (sA : Option Addr) (sz : Nat) (qA : Option Addr) (qz : Nat) (aA : Option Addr) (az : Nat) (wA : Option Addr) (wz : Nat) (cr : Cells I rA (flat repC reps)) (cs : Cells I sA (flat u32C srcs)) (cq : Cells I qA (flat u16C seqs)) (ca : Cells I aA (flat intC arrs)) (cw : Cells I wA (flat wnC wants)) (hok : PkOk (⟨6, sender, media, ntp, rtp, pkts, octs, reps, name, srcs, seqs, base, ref, count, arrs, wants⟩ : Pk)) (hg : Good (⟨6, sender, media, ntp, rtp, pkts, octs, reps, name, srcs, seqs, base, ref, count, arrs, wants⟩ : Pk)) (hst : St I M w) :
    Calls Try.prog 18 #[.agg #[.int .i64 6, .int .u32 sender, .int .u32 media, .int .u64 ntp, .int .u32 rtp, .int .u32 pkts, .int .u32 octs, .slice rA reps.length rz, .string name, .slice sA srcs.length sz, .slice qA seqs.length qz, .int .u16 base, .int .u32 ref, .int .u8 count, .slice aA arrs.length az, .slice wA wants.length wz]] w (Bui I M (⟨6, sender, media, ntp, rtp, pkts, octs, reps, name, srcs, seqs, base, ref, count, arrs, wants⟩ : Pk)) := by
  have hs1 := hst.alloc 56 #[.int .i64 6, .int .u32 sender, .int .u32 media, .int .u64 ntp, .int .u32 rtp, .int .u32 pkts, .int .u32 octs, .slice rA reps.length rz, .string name, .slice sA srcs.length sz, .slice qA seqs.length qz, .int .u16 base, .int .u32 ref, .int .u8 count, .slice aA arrs.length az, .slice wA wants.length wz]
  have HOK := Lib.hid hok
  have HGD := Lib.hid hg
  have hbl := body_len hg
  obtain ⟨n1, n2, n3, n4, n5, n6⟩ := good_lens hg
  have HLOW := Lib.hid (lowP_ok hg)
  simp only [] at n1 n2 n3 n4 n5 n6
  have HCR := Lib.hid cr
  have HCS := Lib.hid cs
  have HCW := Lib.hid cw
  have HCQ := Lib.hid cq
  have HCA := Lib.hid ca
  clear cr cs cq ca cw hok hg hst
  obtain ⟨B, hB⟩ : ∃ B, B = bodyL (⟨6, sender, media, ntp, rtp, pkts, octs, reps, name, srcs, seqs, base, ref, count, arrs, wants⟩ : Pk) := ⟨_, rfl⟩
  rw [← hB] at hbl
  obtain ⟨low, hlow⟩ : ∃ low, low = lowP (⟨6, sender, media, ntp, rtp, pkts, octs, reps, name, srcs, seqs, base, ref, count, arrs, wants⟩ : Pk) := ⟨_, rfl⟩
  obtain ⟨q, hq⟩ : ∃ q, q = w.heap.size := ⟨_, rfl⟩
  rw [← hq] at hs1
  have HBE := Lib.hid hB
  have HLE0 := Lib.hid hlow
  clear hB hlow
  go_enter Try.func18, Try.ntmps18
  go_upto_region 1 with fail
  rw [← hq]
  clear hq
  generalize World.alloc w _ = W at hs1 ⊢
  obtain ⟨hc1, hf1, hl1⟩ := Blk.all (hs1.at 0 rfl)
  have HST := Lib.hid hs1
  clear hs1
  go_upto_region 32 with fail
  clear hc1 hf1 hl1
  have HSS := Lib.hid (fun (J : Img) (w' : World) (_ : I.le J) (hs : St J (bk q 56 #[.int .i64 6, .int .u32 sender, .int .u32 media, .int .u64 ntp, .int .u32 rtp, .int .u32 pkts, .int .u32 octs, .slice rA reps.length rz, .string name, .slice sA srcs.length sz, .slice qA seqs.length qz, .int .u16 base, .int .u32 ref, .int .u8 count, .slice aA arrs.length az, .slice wA wants.length wz] :: M) w') => (show ∀ i, w'.cell? ⟨q, i, none⟩ = (#[.int .i64 6, .int .u32 sender, .int .u32 media, .int .u64 ntp, .int .u32 rtp, .int .u32 pkts, .int .u32 octs, .slice rA reps.length rz, .string name, .slice sA srcs.length sz, .slice qA seqs.length qz, .int .u16 base, .int .u32 ref, .int .u8 count, .slice aA arrs.length az, .slice wA wants.length wz] : Array Value)[i]? from (Blk.all (hs.at 0 rfl)).1))
  have HAR := Lib.hid (show 1 ≤ arrs.length ∧ ∀ a ∈ arrs, badA a = false by
    rcases HGD.out.1 with h | h | h | h | h | h | h <;> simp at h
    exact ⟨h.2.1, h.1⟩)
  have HLB := Lib.hid (show (arrsL arrs).length ≤ 1020 by
    have hm := foldM_ok arrs.length arrs (Nat.le_refl _)
    unfold arrsL arrsM
    rw [List.length_append]
    omega)
  have ho1 := HOK.out.ref
  have ho2 := HOK.out.count
  have ho3 := HOK.out.base
  simp only [] at ho1 ho2 ho3
  have hor := or_ref ho1 ho2
  obtain ⟨p1, p2⟩ := ho1
  obtain ⟨p3, p4⟩ := ho2
  obtain ⟨p5, p6⟩ := ho3
  have hw1 : IntKind.u32.wrap (ref * 256) = ref * 256 := wrap_u32 (by omega) (by omega)
  have hw2 : IntKind.u32.wrap count = count := wrap_u32 (by omega) (by omega)
  have hw3 : IntKind.i64.wrap base = base := wrap_i64 (by omega) (by omega)
  have hw4 : IntKind.u32.wrap (IntKind.u32.wrap (ref * 256)) = ref * 256 := by rw [hw1, hw1]
  refine wp_region_held_drew (S := fun w' => ∀ i, w'.cell? ⟨q, i, none⟩ = (#[.int .i64 6, .int .u32 sender, .int .u32 media, .int .u64 ntp, .int .u32 rtp, .int .u32 pkts, .int .u32 octs, .slice rA reps.length rz, .string name, .slice sA srcs.length sz, .slice qA seqs.length qz, .int .u16 base, .int .u32 ref, .int .u8 count, .slice aA arrs.length az, .slice wA wants.length wz] : Array Value)[i]?) (by kernel_rfl) (HSS.out _ _ (.refl _) HST.out.drew) (fun hHeld => ?_)
  refine wpAnyH_take (i := 0) (oi := _) (v := ?_) rfl (by kernel_rfl) (by kernel_rfl) (by kernel_rfl) (fun _ _ _ h => h) (Or.inl ⟨by rfl, ?_⟩) (by assumption) ?_
  rotate_left
  · (intro w hSw; (try dsimp only at hSw); go_simp; try with_reducible rfl)
  try simp only [Act.put, List.getElem_toArray, List.getElem_cons_zero, List.getElem_cons_succ, List.setIfInBounds_toArray, List.set_cons_zero, List.set_cons_succ]
  refine wpAnyH_take (i := 1) (oi := _) (v := ?_) rfl (by kernel_rfl) (by kernel_rfl) (by kernel_rfl) (fun _ _ _ h => h) (Or.inl ⟨by rfl, ?_⟩) (by assumption) ?_
  rotate_left
  · (intro w hSw; (try dsimp only at hSw); go_simp; try with_reducible rfl)
  try simp only [Act.put, List.getElem_toArray, List.getElem_cons_zero, List.getElem_cons_succ, List.setIfInBounds_toArray, List.set_cons_zero, List.set_cons_succ]
  refine wpAnyH_take (i := 3) (oi := _) (v := ?_) rfl (by kernel_rfl) (by kernel_rfl) (by kernel_rfl) (fun _ _ _ h => h) (Or.inl ⟨by rfl, ?_⟩) (by assumption) ?_
  rotate_left
  · (intro w hSw; (try dsimp only at hSw); go_simp; try with_reducible rfl)
  try simp only [Act.put, List.getElem_toArray, List.getElem_cons_zero, List.getElem_cons_succ, List.setIfInBounds_toArray, List.set_cons_zero, List.set_cons_succ]
  refine wpAnyH_take (i := 4) (oi := _) (v := ?_) rfl (by kernel_rfl) (by kernel_rfl) (by kernel_rfl) (fun _ _ _ h => h) (Or.inl ⟨by rfl, ?_⟩) (by assumption) ?_
  rotate_left
  · (intro w hSw; (try dsimp only at hSw); go_simp; try with_reducible rfl)
  try simp only [Act.put, List.getElem_toArray, List.getElem_cons_zero, List.getElem_cons_succ, List.setIfInBounds_toArray, List.set_cons_zero, List.set_cons_succ]
  refine wpAnyH_take (i := 6) (oi := _) (v := ?_) rfl (by kernel_rfl) (by kernel_rfl) (by kernel_rfl) (fun _ _ _ h => h) (Or.inl ⟨by rfl, ?_⟩) (by assumption) ?_
  rotate_left
  · (intro w hSw; (try dsimp only at hSw); go_simp; try with_reducible rfl)
  try simp only [Act.put, List.getElem_toArray, List.getElem_cons_zero, List.getElem_cons_succ, List.setIfInBounds_toArray, List.set_cons_zero, List.set_cons_succ]
  refine wpAnyH_take (i := 7) (oi := _) (v := ?_) rfl (by kernel_rfl) (by kernel_rfl) (by kernel_rfl) (fun _ _ _ h => h) (Or.inl ⟨by rfl, ?_⟩) (by assumption) ?_
  rotate_left
  · (intro w hSw; (try dsimp only at hSw); go_simp; try with_reducible rfl)
  try simp only [Act.put, List.getElem_toArray, List.getElem_cons_zero, List.getElem_cons_succ, List.setIfInBounds_toArray, List.set_cons_zero, List.set_cons_succ]
  refine wpAnyH_take (i := 8) (oi := _) (v := ?_) rfl (by kernel_rfl) (by kernel_rfl) (by kernel_rfl) (fun _ _ _ h => h) (Or.inl ⟨by rfl, ?_⟩) (by assumption) ?_
  rotate_left
  · (intro w hSw; (try dsimp only at hSw); go_simp; try with_reducible rfl)
  try simp only [Act.put, List.getElem_toArray, List.getElem_cons_zero, List.getElem_cons_succ, List.setIfInBounds_toArray, List.set_cons_zero, List.set_cons_succ]
  refine wpAnyH_take (i := 10) (oi := _) (v := ?_) rfl (by kernel_rfl) (by kernel_rfl) (by kernel_rfl) (fun _ _ _ h => h) (Or.inl ⟨by rfl, ?_⟩) (by assumption) ?_
  rotate_left
  · (intro w hSw; (try dsimp only at hSw); go_simp; try with_reducible rfl)
  try simp only [Act.put, List.getElem_toArray, List.getElem_cons_zero, List.getElem_cons_succ, List.setIfInBounds_toArray, List.set_cons_zero, List.set_cons_succ]
  refine wpAnyH_take (i := 11) (oi := _) (v := ?_) rfl (by kernel_rfl) (by kernel_rfl) (by kernel_rfl) (fun _ _ _ h => h) (Or.inl ⟨by rfl, ?_⟩) (by assumption) ?_
  rotate_left
  · (intro w hSw; (try dsimp only at hSw); go_simp; try with_reducible rfl)
  try simp only [Act.put, List.getElem_toArray, List.getElem_cons_zero, List.getElem_cons_succ, List.setIfInBounds_toArray, List.set_cons_zero, List.set_cons_succ]
  refine wpAnyH_take (i := 12) (oi := _) (v := ?_) rfl (by kernel_rfl) (by kernel_rfl) (by kernel_rfl) (fun _ _ _ h => h) (Or.inl ⟨by rfl, ?_⟩) (by assumption) ?_
  rotate_left
  · (intro w hSw; (try dsimp only at hSw); go_simp; try with_reducible rfl)
  try simp only [Act.put, List.getElem_toArray, List.getElem_cons_zero, List.getElem_cons_succ, List.setIfInBounds_toArray, List.set_cons_zero, List.set_cons_succ]
  refine wpAnyH_take (i := 14) (oi := _) (v := ?_) rfl (by kernel_rfl) (by kernel_rfl) (by kernel_rfl) (fun _ _ _ h => h) (Or.inl ⟨by rfl, ?_⟩) (by assumption) ?_
  rotate_left
  · (intro w hSw; (try dsimp only at hSw); go_simp; try with_reducible rfl)
  try simp only [Act.put, List.getElem_toArray, List.getElem_cons_zero, List.getElem_cons_succ, List.setIfInBounds_toArray, List.set_cons_zero, List.set_cons_succ]
  refine wpAnyH_take (i := 15) (oi := _) (v := ?_) rfl (by kernel_rfl) (by kernel_rfl) (by kernel_rfl) (fun _ _ _ h => h) (Or.inl ⟨by rfl, ?_⟩) (by assumption) ?_
  rotate_left
  · (intro w hSw; (try dsimp only at hSw); go_simp; try with_reducible rfl)
  try simp only [Act.put, List.getElem_toArray, List.getElem_cons_zero, List.getElem_cons_succ, List.setIfInBounds_toArray, List.set_cons_zero, List.set_cons_succ]
  refine wpAnyH_take (i := 16) (oi := _) (v := ?_) rfl (by kernel_rfl) (by kernel_rfl) (by kernel_rfl) (fun _ _ _ h => h) (Or.inl ⟨by rfl, ?_⟩) (by assumption) ?_
  rotate_left
  · (intro w hSw; (try dsimp only at hSw); go_simp; try with_reducible rfl)
  try simp only [Act.put, List.getElem_toArray, List.getElem_cons_zero, List.getElem_cons_succ, List.setIfInBounds_toArray, List.set_cons_zero, List.set_cons_succ]
  refine wpAnyH_take (i := 17) (oi := _) (v := ?_) rfl (by kernel_rfl) (by kernel_rfl) (by kernel_rfl) (fun _ _ _ h => h) (Or.inl ⟨by rfl, ?_⟩) (by assumption) ?_
  rotate_left
  · (intro w hSw; (try dsimp only at hSw); go_simp; try with_reducible rfl)
  try simp only [Act.put, List.getElem_toArray, List.getElem_cons_zero, List.getElem_cons_succ, List.setIfInBounds_toArray, List.set_cons_zero, List.set_cons_succ]
  refine wpAnyH_take (i := 18) (oi := _) (v := ?_) rfl (by kernel_rfl) (by kernel_rfl) (by kernel_rfl) (fun _ _ _ h => h) (Or.inl ⟨by rfl, ?_⟩) (by assumption) ?_
  rotate_left
  · (intro w hSw; (try dsimp only at hSw); go_simp; try with_reducible rfl)
  try simp only [Act.put, List.getElem_toArray, List.getElem_cons_zero, List.getElem_cons_succ, List.setIfInBounds_toArray, List.set_cons_zero, List.set_cons_succ]
  refine wpAnyH_take (i := 19) (oi := _) (v := ?_) rfl (by kernel_rfl) (by kernel_rfl) (by kernel_rfl) (fun _ _ _ h => h) (Or.inl ⟨by rfl, ?_⟩) (by assumption) ?_
  rotate_left
  · (intro w hSw; (try dsimp only at hSw); go_simp; try with_reducible rfl)
  try simp only [Act.put, List.getElem_toArray, List.getElem_cons_zero, List.getElem_cons_succ, List.setIfInBounds_toArray, List.set_cons_zero, List.set_cons_succ]
  refine wpAnyH_take (i := 20) (oi := _) (v := ?_) rfl (by kernel_rfl) (by kernel_rfl) (by kernel_rfl) (fun _ _ _ h => h) (Or.inl ⟨by rfl, ?_⟩) (by assumption) ?_
  rotate_left
  · (intro w hSw; (try dsimp only at hSw); go_simp; try with_reducible rfl)
  try simp only [Act.put, List.getElem_toArray, List.getElem_cons_zero, List.getElem_cons_succ, List.setIfInBounds_toArray, List.set_cons_zero, List.set_cons_succ]
  refine wpAnyH_take (i := 22) (oi := _) (v := ?_) rfl (by kernel_rfl) (by kernel_rfl) (by kernel_rfl) (fun _ _ _ h => h) (Or.inl ⟨by rfl, ?_⟩) (by assumption) ?_
  rotate_left
  · (intro w hSw; (try dsimp only at hSw); go_simp; try with_reducible rfl)
  try simp only [Act.put, List.getElem_toArray, List.getElem_cons_zero, List.getElem_cons_succ, List.setIfInBounds_toArray, List.set_cons_zero, List.set_cons_succ]
  refine wpAnyH_take (i := 23) (oi := _) (v := ?_) rfl (by kernel_rfl) (by kernel_rfl) (by kernel_rfl) (fun _ _ _ h => h) (Or.inl ⟨by rfl, ?_⟩) (by assumption) ?_
  rotate_left
  · (intro w hSw; (try dsimp only at hSw); go_simp; try with_reducible rfl)
  try simp only [Act.put, List.getElem_toArray, List.getElem_cons_zero, List.getElem_cons_succ, List.setIfInBounds_toArray, List.set_cons_zero, List.set_cons_succ]
  refine anyH_ro (I := I) (M := bk q 56 #[.int .i64 6, .int .u32 sender, .int .u32 media, .int .u64 ntp, .int .u32 rtp, .int .u32 pkts, .int .u32 octs, .slice rA reps.length rz, .string name, .slice sA srcs.length sz, .slice qA seqs.length qz, .int .u16 base, .int .u32 ref, .int .u8 count, .slice aA arrs.length az, .slice wA wants.length wz] :: M) (l := [(2, 139, u32B sender), (5, 142, u32B media), (9, 146, u16B (base % 65536)), (13, 150, u16B ((arrs.length : Int) % 65536)), (21, 158, u32B (ref * 256 + count)), (24, 161, arrsL arrs)]) 3 (by kernel_rfl) (by simp only [List.map_cons, List.map_nil]; decide) (by simp only [List.map_cons, List.map_nil]; decide) HSS.out HST.out.drew ?_ ?_
  · refine List.forall_mem_cons.2 ⟨?_, List.forall_mem_cons.2 ⟨?_, List.forall_mem_cons.2 ⟨?_, List.forall_mem_cons.2 ⟨?_, List.forall_mem_cons.2 ⟨?_, List.forall_mem_cons.2 ⟨?_, fun _ h => by cases h⟩⟩⟩⟩⟩⟩
    · refine CdStep.call (o := _) rfl rfl rfl rfl (fun _ _ => rfl) ?_ (fun J w hle hs => (four_frz J _ w (sender) (HOK.out.sender) hs).mono (fun _ _ h => h))
      intro xf; simp [Act.over, setAll, Act.eval, hw1, hw2, hw3, hw4, hor]
    · refine CdStep.call (o := _) rfl rfl rfl rfl (fun _ _ => rfl) ?_ (fun J w hle hs => (four_frz J _ w (media) (HOK.out.media) hs).mono (fun _ _ h => h))
      intro xf; simp [Act.over, setAll, Act.eval, hw1, hw2, hw3, hw4, hor]
    · refine CdStep.call (o := _) rfl rfl rfl rfl (fun _ _ => rfl) ?_ (fun J w hle hs => (two_frz J _ w base hs).mono (fun _ _ h => h))
      intro xf; simp [Act.over, setAll, Act.eval, hw1, hw2, hw3, hw4, hor]
    · refine CdStep.call (o := _) rfl rfl rfl rfl (fun _ _ => rfl) ?_ (fun J w hle hs => (two_frz J _ w arrs.length hs).mono (fun _ _ h => h))
      intro xf; simp [Act.over, setAll, Act.eval, hw1, hw2, hw3, hw4, hor]
    · refine CdStep.call (o := _) rfl rfl rfl rfl (fun _ _ => rfl) ?_ (fun J w hle hs => (four_frz J _ w (ref * 256 + count) (⟨by omega, by omega⟩) hs).mono (fun _ _ h => h))
      intro xf; simp [Act.over, setAll, Act.eval, hw1, hw2, hw3, hw4, hor]
    · refine CdStep.call (o := _) rfl rfl rfl rfl (fun _ _ => rfl) ?_ (fun J w hle hs => (arrivalsR J _ w aA az arrs (HCA.out.mono hle) HAR.out.1 n4 HAR.out.2 hs).mono (fun _ _ h => h))
      intro xf; simp [Act.over, setAll, Act.eval, hw1, hw2, hw3, hw4, hor]
  · intro xf J w hle hs hx
    have r0 : RoB (u32B sender) (xf 139) J := hx (2, 139, u32B sender) (by simp)
    have r1 : RoB (u32B media) (xf 142) J := hx (5, 142, u32B media) (by simp)
    have r2 : RoB (u16B (base % 65536)) (xf 146) J := hx (9, 146, u16B (base % 65536)) (by simp)
    have r3 : RoB (u16B ((arrs.length : Int) % 65536)) (xf 150) J := hx (13, 150, u16B ((arrs.length : Int) % 65536)) (by simp)
    have r4 : RoB (u32B (ref * 256 + count)) (xf 158) J := hx (21, 158, u32B (ref * 256 + count)) (by simp)
    have r5 : RoB (arrsL arrs) (xf 161) J := hx (24, 161, arrsL arrs) (by simp)
    simp only [List.map_cons, List.map_nil, Act.over, setAll, List.foldl_cons, List.foldl_nil, List.setIfInBounds_toArray, List.set_cons_zero, List.set_cons_succ]
    generalize xf 139 = v139 at *
    obtain ⟨A139, c139, rfl, b139⟩ := r0
    generalize xf 142 = v142 at *
    obtain ⟨A142, c142, rfl, b142⟩ := r1
    generalize xf 146 = v146 at *
    obtain ⟨A146, c146, rfl, b146⟩ := r2
    generalize xf 150 = v150 at *
    obtain ⟨A150, c150, rfl, b150⟩ := r3
    generalize xf 158 = v158 at *
    obtain ⟨A158, c158, rfl, b158⟩ := r4
    generalize xf 161 = v161 at *
    obtain ⟨A161, c161, rfl, b161⟩ := r5
    clear hx
    refine wpAnyH_ready (rs := [25]) (by kernel_rfl) (by simp) ?_
    refine AllReadyH.cons (o := _) rfl (fun K hK => ?_) AllReadyH.nil
    go_simp
    try clear hHeld
    refine hK.out _ _ (HSS.out J _ hle (hs.grow _)) (fun hHeld => ?_)
    clear hK K
    try simp only [Act.put, List.getElem_toArray, List.getElem_cons_zero, List.getElem_cons_succ, List.setIfInBounds_toArray, List.set_cons_zero, List.set_cons_succ]
    obtain ⟨J2, hle2, hs2, hobj⟩ := (hs.alloc 24 #[.slice A139 (u32B sender).length c139, .slice A142 (u32B media).length c142, .slice A146 (u16B (base % 65536)).length c146, .slice A150 (u16B ((arrs.length : Int) % 65536)).length c150, .slice A158 (u32B (ref * 256 + count)).length c158, .slice A161 (arrsL arrs).length c161]).freezeBlk
    have hcs := Cells.ofBlk hobj
    refine wpAnyH_ready (rs := [26]) (by kernel_rfl) (by simp) ?_
    refine AllReadyH.cons (o := _) rfl (fun K hK => ?_) AllReadyH.nil
    go_simp
    go_at_call 35
    refine (joinR J2 (bk q 56 #[.int .i64 6, .int .u32 sender, .int .u32 media, .int .u64 ntp, .int .u32 rtp, .int .u32 pkts, .int .u32 octs, .slice rA reps.length rz, .string name, .slice sA srcs.length sz, .slice qA seqs.length qz, .int .u16 base, .int .u32 ref, .int .u8 count, .slice aA arrs.length az, .slice wA wants.length wz] :: M) _ (some ⟨w.heap.size, 0, none⟩) 6 [u32B sender, u32B media, u16B (base % 65536), u16B ((arrs.length : Int) % 65536), u32B (ref * 256 + count), arrsL arrs] [.slice A139 (u32B sender).length c139, .slice A142 (u32B media).length c142, .slice A146 (u16B (base % 65536)).length c146, .slice A150 (u16B ((arrs.length : Int) % 65536)).length c150, .slice A158 (u32B (ref * 256 + count)).length c158, .slice A161 (arrsL arrs).length c161] hcs ⟨⟨A139, c139, rfl, b139.mono hle2⟩, ⟨A142, c142, rfl, b142.mono hle2⟩, ⟨A146, c146, rfl, b146.mono hle2⟩, ⟨A150, c150, rfl, b150.mono hle2⟩, ⟨A158, c158, rfl, b158.mono hle2⟩, ⟨A161, c161, rfl, b161.mono hle2⟩, trivial⟩ (by simp) (by have := HLB.out; simp only [List.flatten_cons, List.flatten_nil, List.length_append, List.length_cons, List.length_nil, u32B_len, u16B_len]; omega) hs2).mono ?_
    rintro e w3 ⟨_, _, _, rfl, _, hs3, rfl, A3, c3, rfl, hc3, rfl⟩
    obtain ⟨fl, hfl⟩ : ∃ z : List UInt8, z = ([u32B sender, u32B media, u16B (base % 65536), u16B ((arrs.length : Int) % 65536), u32B (ref * 256 + count), arrsL arrs] : List (List UInt8)).flatten := ⟨_, rfl⟩
    rw [← hfl] at hs3 hc3 ⊢
    have HFLAT := Lib.hid hfl
    clear hfl
    try clear hHeld
    refine hK.out _ _ (HSS.out J2 _ (hle.trans hle2) hs3.drop) (fun hHeld => ?_)
    clear hK K
    try simp only [Act.put, List.getElem_toArray, List.getElem_cons_zero, List.getElem_cons_succ, List.setIfInBounds_toArray, List.set_cons_zero, List.set_cons_succ]
    refine wpAnyH_take (i := 27) (oi := _) (v := ?_) rfl (by kernel_rfl) (by kernel_rfl) (by kernel_rfl) (fun _ _ _ h => h) (Or.inl ⟨by rfl, ?_⟩) (by assumption) ?_
    rotate_left
    · (intro w hSw; (try dsimp only at hSw); go_simp; try with_reducible rfl)
    try simp only [Act.put, List.getElem_toArray, List.getElem_cons_zero, List.getElem_cons_succ, List.setIfInBounds_toArray, List.set_cons_zero, List.set_cons_succ]
    refine wpAnyH_done (by kernel_rfl) ?_ _
    have hbq : fl = B := by rw [HFLAT.out, HBE.out]; exact body6 HGD.out HOK.out n4
    subst hbq
    have HS := Lib.hid hs3
    have HLE := Lib.hid (hle.trans hle2)
    clear hs hs2 hs3 hHeld hle hle2 hcs hobj HFLAT
    generalize A3 = A4 at *
    go_upto_region 36 with fail
    go_loopw [3] (fun bv wr => ∃ (A : Option Addr) (n c : Nat), bv = .slice A n c ∧ n ≤ 4000 ∧ Hid (∃ (j : Nat) (J : Img), n = fl.length + j ∧ j ≤ (4 - fl.length % 4) % 4 ∧ I.le J ∧ St J (row 5 1 (.slice A n c) n (bvs (fl ++ List.replicate j 0)) :: bk q 56 #[.int .i64 6, .int .u32 sender, .int .u32 media, .int .u64 ntp, .int .u32 rtp, .int .u32 pkts, .int .u32 octs, .slice rA reps.length rz, .string name, .slice sA srcs.length sz, .slice qA seqs.length qz, .int .u16 base, .int .u32 ref, .int .u8 count, .slice aA arrs.length az, .slice wA wants.length wz] :: M) wr)) (fun bv _ => (4 - sliceLen bv % 4) % 4)
    case atStart => exact ⟨_, _, _, rfl, by omega, Lib.hid ⟨0, J2, rfl, Nat.zero_le _, HLE.out, by simpa using HS.out⟩⟩
    case round =>
      obtain ⟨A, n, c, rfl, hn, hh⟩ := hrel
      obtain ⟨j, J, hnj, hj, hle, hs⟩ := hh.out
      clear hh HS HLE
      have hln : (fl ++ List.replicate j 0).length = n := by rw [hnj]; simp
      have HLN := Lib.hid hln
      have HRP := Lib.hid (rep_snoc j)
      have HNJ := Lib.hid hnj
      by_cases hlt : j < (4 - fl.length % 4) % 4
      · have hm : ((n : Int) % 4 != 0) = true := by rw [bne_iff_ne]; omega
        obtain ⟨J3, hle3, hs3, hobj⟩ := (hs.alloc 5 #[.int .u8 0]).freezeBlk
        have HB1 := Lib.hid (show RoB [0] (.slice (some ⟨wr.heap.size, 0, none⟩) 1 1) J3 from ⟨_, 1, rfl, Byts.ofBlk hobj rfl⟩)
        obtain ⟨bl, hbe⟩ : ∃ bl, bl = fl ++ List.replicate j 0 := ⟨_, rfl⟩
        rw [← hbe] at hs3 hln
        rw [← hln] at hs3
        have HBL := Lib.hid hbe
        have HS3 := Lib.hid hs3
        have HLE := Lib.hid (hle.trans hle3)
        have HLT := Lib.hid hlt
        have HLL := Lib.hid hln
        clear hbe hle hle3 hs hs3 hobj hnj hj hln hlt
        go_wp2_with (at_builtin; refine wpList_appB rfl _ _ rfl J3 _ _ _ _ _ (by rw [HLL.out]; rfl) rfl HS3.out HB1.out (by have := HLL.out; simp only [List.length_cons, List.length_nil]; omega) ?_)
        intro v3 w3 hs4
        obtain ⟨A5, c5, rfl⟩ := own_form (show World.ownsRow _ 0 5 1 v3 _ _ from St.at hs4 0 rfl)
        have hl5 : (bl ++ [0]).length = n + 1 := by rw [List.length_append, HLL.out]; rfl
        have hs5 := show St J3 _ w3 from hs4
        rw [hl5] at hs5 ⊢
        have HS5 := Lib.hid hs5
        clear hs4 hs5 HS3 HB1 hl5
        go_wp2
        go_roundw
        case rel =>
          refine ⟨A5, n + 1, c5, rfl, by have := HLT.out; have := HNJ.out; omega, Lib.hid ⟨j + 1, J3, by have := HNJ.out; omega, by have := HLT.out; omega, HLE.out, ?_⟩⟩
          have := HS5.out
          rw [HBL.out, List.append_assoc, ← HRP.out] at this
          exact this
        case measure =>
          have h1 := HNJ.out
          have h2 := HLT.out
          show (4 - (n + 1) % 4) % 4 < (4 - n % 4) % 4
          omega
      · have hm : ((n : Int) % 4 != 0) = false := by rw [bne_eq_false_iff_eq]; omega
        have hjj : j = (4 - fl.length % 4) % 4 := by omega
        rw [hjj, even_rep] at hs hln
        obtain ⟨E, hE⟩ : ∃ E, E = evenL fl := ⟨_, rfl⟩
        rw [← hE] at hs hln
        have HE := Lib.hid hE
        obtain ⟨J3, hle3, hs3, hb3⟩ := hs.freezeRow
        have HS3 := Lib.hid hs3
        have HB3 := Lib.hid (show Byts J3 A E from hb3)
        have HLE := Lib.hid (hle.trans hle3)
        have HLL := Lib.hid hln
        clear hs hs3 hb3 hle hle3 hE hln hnj hj hjj hlt
        have HV := Lib.hid (show [byteOf (143), byteOf 205] ++ u16B ((E.length / 4 : Nat) : Int) ++ E = packB (⟨6, sender, media, ntp, rtp, pkts, octs, reps, name, srcs, seqs, base, ref, count, arrs, wants⟩ : Pk) by
          have e1 : 128 + low = 143 := by rw [HLE0.out]; rfl
          rw [← e1, HLE0.out, HE.out, HBE.out]
          rfl)
        obtain ⟨J4, hle4, hs4, hobj⟩ := (HS3.out.alloc 5 #[.int .u8 (143), .int .u8 205]).freezeBlk
        have HB4 := Lib.hid (show Byts J4 (some ⟨wr.heap.size, 0, none⟩) [byteOf (143), byteOf 205] from Byts.ofBlk hobj (lit_two (by omega) (by omega)))
        have HT := Lib.hid (twoR J4 _ _ ((n : Int) / 4) hs4)
        have HLE4 := Lib.hid hle4
        clear hle4 hs4 hobj HS3
        go_wp2_with fail
        go_at_call 39
        refine HT.out.mono ?_
        clear HT
        rintro e w2 ⟨_, _, _, rfl, _, hs1, rfl, A6, c6, rfl, hc6, rfl⟩
        obtain ⟨J5, hle5, hs5, hb5⟩ := hs1.freezeRow
        have hb5 : Byts J5 A6 (u16B ((n : Int) / 4 % 65536)) := hb5
        obtain ⟨J6, hle6, hs6, hobj⟩ := (hs5.alloc 24 #[.slice (some ⟨wr.heap.size, 0, none⟩) 2 2, .slice A6 (u16B ((n : Int) / 4 % 65536)).length c6, .slice A n c]).freezeBlk
        have hcs := Cells.ofBlk hobj
        have HJ := Lib.hid (joinR J6 (bk q 56 #[.int .i64 6, .int .u32 sender, .int .u32 media, .int .u64 ntp, .int .u32 rtp, .int .u32 pkts, .int .u32 octs, .slice rA reps.length rz, .string name, .slice sA srcs.length sz, .slice qA seqs.length qz, .int .u16 base, .int .u32 ref, .int .u8 count, .slice aA arrs.length az, .slice wA wants.length wz] :: M) _ (some ⟨w2.heap.size, 0, none⟩) 3 [[byteOf (143), byteOf 205], u16B ((n : Int) / 4 % 65536), E] [.slice (some ⟨wr.heap.size, 0, none⟩) 2 2, .slice A6 (u16B ((n : Int) / 4 % 65536)).length c6, .slice A n c] hcs ⟨⟨_, 2, rfl, (HB4.out.mono hle5).mono hle6⟩, ⟨A6, c6, rfl, hb5.mono hle6⟩, ⟨A, c, by rw [HLL.out], ((HB3.out.mono HLE4.out).mono hle5).mono hle6⟩, trivial⟩ (by simp) (by have := HLL.out; simp only [List.flatten_cons, List.flatten_nil, List.length_append, List.length_cons, List.length_nil, u16B_len]; omega) hs6)
        have HL := Lib.hid (((HLE.out.trans HLE4.out).trans hle5).trans hle6)
        clear hs1 hs5 hs6 hb5 hc6 hobj hcs hle5 hle6 HB3 HB4
        go_wp2_with fail
        go_at_call 35
        refine HJ.out.mono ?_
        clear HJ
        rintro e w4 ⟨_, _, _, rfl, _, hs7, rfl, A7, c7, rfl, hc7, rfl⟩
        have HPE := Lib.hid (show ([[byteOf (143), byteOf 205], u16B ((n : Int) / 4 % 65536), E] : List (List UInt8)).flatten = packB (⟨6, sender, media, ntp, rtp, pkts, octs, reps, name, srcs, seqs, base, ref, count, arrs, wants⟩ : Pk) by
          rw [← HV.out, HLL.out]
          have e2 : (n : Int) / 4 % 65536 = ((n / 4 : Nat) : Int) := by omega
          rw [e2]
          simp)
        rw [HPE.out] at hs7 hc7 ⊢
        have HF := Lib.hid (show Bui I M (⟨6, sender, media, ntp, rtp, pkts, octs, reps, name, srcs, seqs, base, ref, count, arrs, wants⟩ : Pk) (.returned _) w4 from Ret.mk HL.out (St.swap1 hs7).drop ⟨A7, c7, rfl, rfl⟩)
        clear hs7 hc7 HPE HV
        generalize packB (⟨6, sender, media, ntp, rtp, pkts, octs, reps, name, srcs, seqs, base, ref, count, arrs, wants⟩ : Pk) = pbs at *
        go_wp2
        go_returns
        exact HF.out
end Go.Proofs.Ytddopbbmgpnjjaa
namespace Go.Proofs.Ytddopbbmgpnjjaa
open Go.RowKit
set_option linter.unusedSimpArgs false

set_option maxRecDepth 100000 in
set_option maxHeartbeats 40000000 in
theorem build7 (I : Img) (M : List Res) (w : World) (sender : Int) (media : Int) (ntp : Int) (rtp : Int) (pkts : Int) (octs : Int) (base : Int) (ref : Int) (count : Int) (name : ByteArray) (reps : List Rp) (srcs seqs arrs : List Int) (wants : List Wn) (rA : Option Addr) (rz : Nat) (sA : Option Addr) (sz : Nat) (qA : Option Addr) (qz : Nat) (aA : Option Addr) (az : Nat) (wA : Option Addr) (wz : Nat) (cr : Cells I rA (flat repC reps)) (cs : Cells I sA (flat u32C srcs)) (cq : Cells I qA (flat u16C seqs)) (ca : Cells I aA (flat intC arrs)) (cw : Cells I wA (flat wnC wants)) (hok : PkOk (⟨7, sender, media, ntp, rtp, pkts, octs, reps, name, srcs, seqs, base, ref, count, arrs, wants⟩ : Pk)) (hg : Good (⟨7, sender, media, ntp, rtp, pkts, octs, reps, name, srcs, seqs, base, ref, count, arrs, wants⟩ : Pk)) (hst : St I M w) :
    Calls Try.prog 18 #[.agg #[.int .i64 7, .int .u32 sender, .int .u32 media, .int .u64 ntp, .int .u32 rtp, .int .u32 pkts, .int .u32 octs, .slice rA reps.length rz, .string name, .slice sA srcs.length sz, .slice qA seqs.length qz, .int .u16 base, .int .u32 ref, .int .u8 count, .slice aA arrs.length az, .slice wA wants.length wz]] w (Bui I M (⟨7, sender, media, ntp, rtp, pkts, octs, reps, name, srcs, seqs, base, ref, count, arrs, wants⟩ : Pk)) := by
  have hs1 := hst.alloc 56 #[.int .i64 7, .int .u32 sender, .int .u32 media, .int .u64 ntp, .int .u32 rtp, .int .u32 pkts, .int .u32 octs, .slice rA reps.length rz, .string name, .slice sA srcs.length sz, .slice qA seqs.length qz, .int .u16 base, .int .u32 ref, .int .u8 count, .slice aA arrs.length az, .slice wA wants.length wz]
  have HOK := Lib.hid hok
  have HGD := Lib.hid hg
  have hbl := body_len hg
  obtain ⟨n1, n2, n3, n4, n5, n6⟩ := good_lens hg
  have HLOW := Lib.hid (lowP_ok hg)
  simp only [] at n1 n2 n3 n4 n5 n6
  have HCR := Lib.hid cr
  have HCS := Lib.hid cs
  have HCW := Lib.hid cw
  have HCQ := Lib.hid cq
  have HCA := Lib.hid ca
  clear cr cs cq ca cw hok hg hst
  obtain ⟨B, hB⟩ : ∃ B, B = bodyL (⟨7, sender, media, ntp, rtp, pkts, octs, reps, name, srcs, seqs, base, ref, count, arrs, wants⟩ : Pk) := ⟨_, rfl⟩
  rw [← hB] at hbl
  obtain ⟨low, hlow⟩ : ∃ low, low = lowP (⟨7, sender, media, ntp, rtp, pkts, octs, reps, name, srcs, seqs, base, ref, count, arrs, wants⟩ : Pk) := ⟨_, rfl⟩
  obtain ⟨q, hq⟩ : ∃ q, q = w.heap.size := ⟨_, rfl⟩
  rw [← hq] at hs1
  have HBE := Lib.hid hB
  have HLE0 := Lib.hid hlow
  clear hB hlow
  go_enter Try.func18, Try.ntmps18
  go_upto_region 1 with fail
  rw [← hq]
  clear hq
  generalize World.alloc w _ = W at hs1 ⊢
  obtain ⟨hc1, hf1, hl1⟩ := Blk.all (hs1.at 0 rfl)
  have HST := Lib.hid hs1
  clear hs1
  go_upto_region 35 with fail
  clear hc1 hf1 hl1
  have HSS := Lib.hid (fun (J : Img) (w' : World) (_ : I.le J) (hs : St J (bk q 56 #[.int .i64 7, .int .u32 sender, .int .u32 media, .int .u64 ntp, .int .u32 rtp, .int .u32 pkts, .int .u32 octs, .slice rA reps.length rz, .string name, .slice sA srcs.length sz, .slice qA seqs.length qz, .int .u16 base, .int .u32 ref, .int .u8 count, .slice aA arrs.length az, .slice wA wants.length wz] :: M) w') => (show ∀ i, w'.cell? ⟨q, i, none⟩ = (#[.int .i64 7, .int .u32 sender, .int .u32 media, .int .u64 ntp, .int .u32 rtp, .int .u32 pkts, .int .u32 octs, .slice rA reps.length rz, .string name, .slice sA srcs.length sz, .slice qA seqs.length qz, .int .u16 base, .int .u32 ref, .int .u8 count, .slice aA arrs.length az, .slice wA wants.length wz] : Array Value)[i]? from (Blk.all (hs.at 0 rfl)).1))
  have HLB := Lib.hid (show 0 ≤ 1 from by omega)
  refine wp_region_held_drew (S := fun w' => ∀ i, w'.cell? ⟨q, i, none⟩ = (#[.int .i64 7, .int .u32 sender, .int .u32 media, .int .u64 ntp, .int .u32 rtp, .int .u32 pkts, .int .u32 octs, .slice rA reps.length rz, .string name, .slice sA srcs.length sz, .slice qA seqs.length qz, .int .u16 base, .int .u32 ref, .int .u8 count, .slice aA arrs.length az, .slice wA wants.length wz] : Array Value)[i]?) (by kernel_rfl) (HSS.out _ _ (.refl _) HST.out.drew) (fun hHeld => ?_)
  refine wpAnyH_take (i := 0) (oi := _) (v := ?_) rfl (by kernel_rfl) (by kernel_rfl) (by kernel_rfl) (fun _ _ _ h => h) (Or.inl ⟨by rfl, ?_⟩) (by assumption) ?_
  rotate_left
  · (intro w hSw; (try dsimp only at hSw); go_simp; try with_reducible rfl)
  try simp only [Act.put, List.getElem_toArray, List.getElem_cons_zero, List.getElem_cons_succ, List.setIfInBounds_toArray, List.set_cons_zero, List.set_cons_succ]
  refine wpAnyH_take (i := 1) (oi := _) (v := ?_) rfl (by kernel_rfl) (by kernel_rfl) (by kernel_rfl) (fun _ _ _ h => h) (Or.inl ⟨by rfl, ?_⟩) (by assumption) ?_
  rotate_left
  · (intro w hSw; (try dsimp only at hSw); go_simp; try with_reducible rfl)
  try simp only [Act.put, List.getElem_toArray, List.getElem_cons_zero, List.getElem_cons_succ, List.setIfInBounds_toArray, List.set_cons_zero, List.set_cons_succ]
  refine wpAnyH_take (i := 3) (oi := _) (v := ?_) rfl (by kernel_rfl) (by kernel_rfl) (by kernel_rfl) (fun _ _ _ h => h) (Or.inl ⟨by rfl, ?_⟩) (by assumption) ?_
  rotate_left
  · (intro w hSw; (try dsimp only at hSw); go_simp; try with_reducible rfl)
  try simp only [Act.put, List.getElem_toArray, List.getElem_cons_zero, List.getElem_cons_succ, List.setIfInBounds_toArray, List.set_cons_zero, List.set_cons_succ]
  refine wpAnyH_take (i := 4) (oi := _) (v := ?_) rfl (by kernel_rfl) (by kernel_rfl) (by kernel_rfl) (fun _ _ _ h => h) (Or.inl ⟨by rfl, ?_⟩) (by assumption) ?_
  rotate_left
  · (intro w hSw; (try dsimp only at hSw); go_simp; try with_reducible rfl)
  try simp only [Act.put, List.getElem_toArray, List.getElem_cons_zero, List.getElem_cons_succ, List.setIfInBounds_toArray, List.set_cons_zero, List.set_cons_succ]
  refine anyH_ro (I := I) (M := bk q 56 #[.int .i64 7, .int .u32 sender, .int .u32 media, .int .u64 ntp, .int .u32 rtp, .int .u32 pkts, .int .u32 octs, .slice rA reps.length rz, .string name, .slice sA srcs.length sz, .slice qA seqs.length qz, .int .u16 base, .int .u32 ref, .int .u8 count, .slice aA arrs.length az, .slice wA wants.length wz] :: M) (l := [(2, 168, u32B sender), (5, 171, u32B media)]) 3 (by kernel_rfl) (by simp only [List.map_cons, List.map_nil]; decide) (by simp only [List.map_cons, List.map_nil]; decide) HSS.out HST.out.drew ?_ ?_
  · refine List.forall_mem_cons.2 ⟨?_, List.forall_mem_cons.2 ⟨?_, fun _ h => by cases h⟩⟩
    · refine CdStep.call (o := _) rfl rfl rfl rfl (fun _ _ => rfl) ?_ (fun J w hle hs => (four_frz J _ w (sender) (HOK.out.sender) hs).mono (fun _ _ h => h))
      intro xf; simp [Act.over, setAll, Act.eval]
    · refine CdStep.call (o := _) rfl rfl rfl rfl (fun _ _ => rfl) ?_ (fun J w hle hs => (four_frz J _ w (media) (HOK.out.media) hs).mono (fun _ _ h => h))
      intro xf; simp [Act.over, setAll, Act.eval]
  · intro xf J w hle hs hx
    have r0 : RoB (u32B sender) (xf 168) J := hx (2, 168, u32B sender) (by simp)
    have r1 : RoB (u32B media) (xf 171) J := hx (5, 171, u32B media) (by simp)
    simp only [List.map_cons, List.map_nil, Act.over, setAll, List.foldl_cons, List.foldl_nil, List.setIfInBounds_toArray, List.set_cons_zero, List.set_cons_succ]
    generalize xf 168 = v168 at *
    obtain ⟨A168, c168, rfl, b168⟩ := r0
    generalize xf 171 = v171 at *
    obtain ⟨A171, c171, rfl, b171⟩ := r1
    clear hx
    refine wpAnyH_ready (rs := [6]) (by kernel_rfl) (by simp) ?_
    refine AllReadyH.cons (o := _) rfl (fun K hK => ?_) AllReadyH.nil
    go_simp
    try clear hHeld
    refine hK.out _ _ (HSS.out J _ hle (hs.grow _)) (fun hHeld => ?_)
    clear hK K
    try simp only [Act.put, List.getElem_toArray, List.getElem_cons_zero, List.getElem_cons_succ, List.setIfInBounds_toArray, List.set_cons_zero, List.set_cons_succ]
    obtain ⟨J2, hle2, hs2, hobj⟩ := (hs.alloc 24 #[.slice A168 (u32B sender).length c168, .slice A171 (u32B media).length c171]).freezeBlk
    have hcs := Cells.ofBlk hobj
    refine wpAnyH_ready (rs := [7]) (by kernel_rfl) (by simp) ?_
    refine AllReadyH.cons (o := _) rfl (fun K hK => ?_) AllReadyH.nil
    go_simp
    go_at_call 35
    refine (joinR J2 (bk q 56 #[.int .i64 7, .int .u32 sender, .int .u32 media, .int .u64 ntp, .int .u32 rtp, .int .u32 pkts, .int .u32 octs, .slice rA reps.length rz, .string name, .slice sA srcs.length sz, .slice qA seqs.length qz, .int .u16 base, .int .u32 ref, .int .u8 count, .slice aA arrs.length az, .slice wA wants.length wz] :: M) _ (some ⟨w.heap.size, 0, none⟩) 2 [u32B sender, u32B media] [.slice A168 (u32B sender).length c168, .slice A171 (u32B media).length c171] hcs ⟨⟨A168, c168, rfl, b168.mono hle2⟩, ⟨A171, c171, rfl, b171.mono hle2⟩, trivial⟩ (by simp) (by have := HLB.out; simp only [List.flatten_cons, List.flatten_nil, List.length_append, List.length_cons, List.length_nil, u32B_len, u16B_len]; omega) hs2).mono ?_
    rintro e w3 ⟨_, _, _, rfl, _, hs3, rfl, A3, c3, rfl, hc3, rfl⟩
    obtain ⟨fl, hfl⟩ : ∃ z : List UInt8, z = ([u32B sender, u32B media] : List (List UInt8)).flatten := ⟨_, rfl⟩
    rw [← hfl] at hs3 hc3 ⊢
    have HFLAT := Lib.hid hfl
    clear hfl
    try clear hHeld
    refine hK.out _ _ (HSS.out J2 _ (hle.trans hle2) hs3.drop) (fun hHeld => ?_)
    clear hK K
    try simp only [Act.put, List.getElem_toArray, List.getElem_cons_zero, List.getElem_cons_succ, List.setIfInBounds_toArray, List.set_cons_zero, List.set_cons_succ]
    refine wpAnyH_take (i := 8) (oi := _) (v := ?_) rfl (by kernel_rfl) (by kernel_rfl) (by kernel_rfl) (fun _ _ _ h => h) (Or.inl ⟨by rfl, ?_⟩) (by assumption) ?_
    rotate_left
    · (intro w hSw; (try dsimp only at hSw); go_simp; try with_reducible rfl)
    try simp only [Act.put, List.getElem_toArray, List.getElem_cons_zero, List.getElem_cons_succ, List.setIfInBounds_toArray, List.set_cons_zero, List.set_cons_succ]
    refine wpAnyH_done (by kernel_rfl) ?_ _
    have hbq : fl = B := by rw [HFLAT.out, HBE.out]; exact body7 HGD.out
    subst hbq
    have HS := Lib.hid hs3
    have HLE := Lib.hid (hle.trans hle2)
    clear hs hs2 hs3 hHeld hle hle2 hcs hobj HFLAT
    generalize A3 = A4 at *
    go_upto_region 36 with fail
    go_loopw [3] (fun bv wr => ∃ (A : Option Addr) (n c : Nat), bv = .slice A n c ∧ n ≤ 4000 ∧ Hid (∃ (j : Nat) (J : Img), n = fl.length + j ∧ j ≤ (4 - fl.length % 4) % 4 ∧ I.le J ∧ St J (row 5 1 (.slice A n c) n (bvs (fl ++ List.replicate j 0)) :: bk q 56 #[.int .i64 7, .int .u32 sender, .int .u32 media, .int .u64 ntp, .int .u32 rtp, .int .u32 pkts, .int .u32 octs, .slice rA reps.length rz, .string name, .slice sA srcs.length sz, .slice qA seqs.length qz, .int .u16 base, .int .u32 ref, .int .u8 count, .slice aA arrs.length az, .slice wA wants.length wz] :: M) wr)) (fun bv _ => (4 - sliceLen bv % 4) % 4)
    case atStart => exact ⟨_, _, _, rfl, by omega, Lib.hid ⟨0, J2, rfl, Nat.zero_le _, HLE.out, by simpa using HS.out⟩⟩
    case round =>
      obtain ⟨A, n, c, rfl, hn, hh⟩ := hrel
      obtain ⟨j, J, hnj, hj, hle, hs⟩ := hh.out
      clear hh HS HLE
      have hln : (fl ++ List.replicate j 0).length = n := by rw [hnj]; simp
      have HLN := Lib.hid hln
      have HRP := Lib.hid (rep_snoc j)
      have HNJ := Lib.hid hnj
      by_cases hlt : j < (4 - fl.length % 4) % 4
      · have hm : ((n : Int) % 4 != 0) = true := by rw [bne_iff_ne]; omega
        obtain ⟨J3, hle3, hs3, hobj⟩ := (hs.alloc 5 #[.int .u8 0]).freezeBlk
        have HB1 := Lib.hid (show RoB [0] (.slice (some ⟨wr.heap.size, 0, none⟩) 1 1) J3 from ⟨_, 1, rfl, Byts.ofBlk hobj rfl⟩)
        obtain ⟨bl, hbe⟩ : ∃ bl, bl = fl ++ List.replicate j 0 := ⟨_, rfl⟩
        rw [← hbe] at hs3 hln
        rw [← hln] at hs3
        have HBL := Lib.hid hbe
        have HS3 := Lib.hid hs3
        have HLE := Lib.hid (hle.trans hle3)
        have HLT := Lib.hid hlt
        have HLL := Lib.hid hln
        clear hbe hle hle3 hs hs3 hobj hnj hj hln hlt
        go_wp2_with (at_builtin; refine wpList_appB rfl _ _ rfl J3 _ _ _ _ _ (by rw [HLL.out]; rfl) rfl HS3.out HB1.out (by have := HLL.out; simp only [List.length_cons, List.length_nil]; omega) ?_)
        intro v3 w3 hs4
        obtain ⟨A5, c5, rfl⟩ := own_form (show World.ownsRow _ 0 5 1 v3 _ _ from St.at hs4 0 rfl)
        have hl5 : (bl ++ [0]).length = n + 1 := by rw [List.length_append, HLL.out]; rfl
        have hs5 := show St J3 _ w3 from hs4
        rw [hl5] at hs5 ⊢
        have HS5 := Lib.hid hs5
        clear hs4 hs5 HS3 HB1 hl5
        go_wp2
        go_roundw
        case rel =>
          refine ⟨A5, n + 1, c5, rfl, by have := HLT.out; have := HNJ.out; omega, Lib.hid ⟨j + 1, J3, by have := HNJ.out; omega, by have := HLT.out; omega, HLE.out, ?_⟩⟩
          have := HS5.out
          rw [HBL.out, List.append_assoc, ← HRP.out] at this
          exact this
        case measure =>
          have h1 := HNJ.out
          have h2 := HLT.out
          show (4 - (n + 1) % 4) % 4 < (4 - n % 4) % 4
          omega
      · have hm : ((n : Int) % 4 != 0) = false := by rw [bne_eq_false_iff_eq]; omega
        have hjj : j = (4 - fl.length % 4) % 4 := by omega
        rw [hjj, even_rep] at hs hln
        obtain ⟨E, hE⟩ : ∃ E, E = evenL fl := ⟨_, rfl⟩
        rw [← hE] at hs hln
        have HE := Lib.hid hE
        obtain ⟨J3, hle3, hs3, hb3⟩ := hs.freezeRow
        have HS3 := Lib.hid hs3
        have HB3 := Lib.hid (show Byts J3 A E from hb3)
        have HLE := Lib.hid (hle.trans hle3)
        have HLL := Lib.hid hln
        clear hs hs3 hb3 hle hle3 hE hln hnj hj hjj hlt
        have HV := Lib.hid (show [byteOf (129), byteOf 206] ++ u16B ((E.length / 4 : Nat) : Int) ++ E = packB (⟨7, sender, media, ntp, rtp, pkts, octs, reps, name, srcs, seqs, base, ref, count, arrs, wants⟩ : Pk) by
          have e1 : 128 + low = 129 := by rw [HLE0.out]; rfl
          rw [← e1, HLE0.out, HE.out, HBE.out]
          rfl)
        obtain ⟨J4, hle4, hs4, hobj⟩ := (HS3.out.alloc 5 #[.int .u8 (129), .int .u8 206]).freezeBlk
        have HB4 := Lib.hid (show Byts J4 (some ⟨wr.heap.size, 0, none⟩) [byteOf (129), byteOf 206] from Byts.ofBlk hobj (lit_two (by omega) (by omega)))
        have HT := Lib.hid (twoR J4 _ _ ((n : Int) / 4) hs4)
        have HLE4 := Lib.hid hle4
        clear hle4 hs4 hobj HS3
        go_wp2_with fail
        go_at_call 39
        refine HT.out.mono ?_
        clear HT
        rintro e w2 ⟨_, _, _, rfl, _, hs1, rfl, A6, c6, rfl, hc6, rfl⟩
        obtain ⟨J5, hle5, hs5, hb5⟩ := hs1.freezeRow
        have hb5 : Byts J5 A6 (u16B ((n : Int) / 4 % 65536)) := hb5
        obtain ⟨J6, hle6, hs6, hobj⟩ := (hs5.alloc 24 #[.slice (some ⟨wr.heap.size, 0, none⟩) 2 2, .slice A6 (u16B ((n : Int) / 4 % 65536)).length c6, .slice A n c]).freezeBlk
        have hcs := Cells.ofBlk hobj
        have HJ := Lib.hid (joinR J6 (bk q 56 #[.int .i64 7, .int .u32 sender, .int .u32 media, .int .u64 ntp, .int .u32 rtp, .int .u32 pkts, .int .u32 octs, .slice rA reps.length rz, .string name, .slice sA srcs.length sz, .slice qA seqs.length qz, .int .u16 base, .int .u32 ref, .int .u8 count, .slice aA arrs.length az, .slice wA wants.length wz] :: M) _ (some ⟨w2.heap.size, 0, none⟩) 3 [[byteOf (129), byteOf 206], u16B ((n : Int) / 4 % 65536), E] [.slice (some ⟨wr.heap.size, 0, none⟩) 2 2, .slice A6 (u16B ((n : Int) / 4 % 65536)).length c6, .slice A n c] hcs ⟨⟨_, 2, rfl, (HB4.out.mono hle5).mono hle6⟩, ⟨A6, c6, rfl, hb5.mono hle6⟩, ⟨A, c, by rw [HLL.out], ((HB3.out.mono HLE4.out).mono hle5).mono hle6⟩, trivial⟩ (by simp) (by have := HLL.out; simp only [List.flatten_cons, List.flatten_nil, List.length_append, List.length_cons, List.length_nil, u16B_len]; omega) hs6)
        have HL := Lib.hid (((HLE.out.trans HLE4.out).trans hle5).trans hle6)
        clear hs1 hs5 hs6 hb5 hc6 hobj hcs hle5 hle6 HB3 HB4
        go_wp2_with fail
        go_at_call 35
        refine HJ.out.mono ?_
        clear HJ
        rintro e w4 ⟨_, _, _, rfl, _, hs7, rfl, A7, c7, rfl, hc7, rfl⟩
        have HPE := Lib.hid (show ([[byteOf (129), byteOf 206], u16B ((n : Int) / 4 % 65536), E] : List (List UInt8)).flatten = packB (⟨7, sender, media, ntp, rtp, pkts, octs, reps, name, srcs, seqs, base, ref, count, arrs, wants⟩ : Pk) by
          rw [← HV.out, HLL.out]
          have e2 : (n : Int) / 4 % 65536 = ((n / 4 : Nat) : Int) := by omega
          rw [e2]
          simp)
        rw [HPE.out] at hs7 hc7 ⊢
        have HF := Lib.hid (show Bui I M (⟨7, sender, media, ntp, rtp, pkts, octs, reps, name, srcs, seqs, base, ref, count, arrs, wants⟩ : Pk) (.returned _) w4 from Ret.mk HL.out (St.swap1 hs7).drop ⟨A7, c7, rfl, rfl⟩)
        clear hs7 hc7 HPE HV
        generalize packB (⟨7, sender, media, ntp, rtp, pkts, octs, reps, name, srcs, seqs, base, ref, count, arrs, wants⟩ : Pk) = pbs at *
        go_wp2
        go_returns
        exact HF.out
end Go.Proofs.Ytddopbbmgpnjjaa
namespace Go.Proofs.Ytddopbbmgpnjjaa
open Go.RowKit
set_option linter.unusedSimpArgs false

set_option maxRecDepth 100000 in
set_option maxHeartbeats 40000000 in
theorem build8 (I : Img) (M : List Res) (w : World) (sender : Int) (media : Int) (ntp : Int) (rtp : Int) (pkts : Int) (octs : Int) (base : Int) (ref : Int) (count : Int) (name : ByteArray) (reps : List Rp) (srcs seqs arrs : List Int) (wants : List Wn) (rA : Option Addr) (rz : Nat) (sA : Option Addr) (sz : Nat) (qA : Option Addr) (qz : Nat) (aA : Option Addr) (az : Nat) (wA : Option Addr) (wz : Nat) (cr : Cells I rA (flat repC reps)) (cs : Cells I sA (flat u32C srcs)) (cq : Cells I qA (flat u16C seqs)) (ca : Cells I aA (flat intC arrs)) (cw : Cells I wA (flat wnC wants)) (hok : PkOk (⟨8, sender, media, ntp, rtp, pkts, octs, reps, name, srcs, seqs, base, ref, count, arrs, wants⟩ : Pk)) (hg : Good (⟨8, sender, media, ntp, rtp, pkts, octs, reps, name, srcs, seqs, base, ref, count, arrs, wants⟩ : Pk)) (hst : St I M w) :
    Calls Try.prog 18 #[.agg #[.int .i64 8, .int .u32 sender, .int .u32 media, .int .u64 ntp, .int .u32 rtp, .int .u32 pkts, .int .u32 octs, .slice rA reps.length rz, .string name, .slice sA srcs.length sz, .slice qA seqs.length qz, .int .u16 base, .int .u32 ref, .int .u8 count, .slice aA arrs.length az, .slice wA wants.length wz]] w (Bui I M (⟨8, sender, media, ntp, rtp, pkts, octs, reps, name, srcs, seqs, base, ref, count, arrs, wants⟩ : Pk)) := by
  have hwl : 1 ≤ wants.length := by rcases hg.1 with h | h | h | h | h | h | h <;> simp at h; exact h.1
  obtain ⟨g, o, rfl, hcellw⟩ := flat_get (s := 2) (fun _ => rfl) cw (by omega) (by decide)
  have HCELL := Lib.hid hcellw
  clear hcellw
  have hs1 := hst.alloc 56 #[.int .i64 8, .int .u32 sender, .int .u32 media, .int .u64 ntp, .int .u32 rtp, .int .u32 pkts, .int .u32 octs, .slice rA reps.length rz, .string name, .slice sA srcs.length sz, .slice qA seqs.length qz, .int .u16 base, .int .u32 ref, .int .u8 count, .slice aA arrs.length az, .slice (some ⟨g, o, none⟩) wants.length wz]
  have HOK := Lib.hid hok
  have HGD := Lib.hid hg
  have hbl := body_len hg
  obtain ⟨n1, n2, n3, n4, n5, n6⟩ := good_lens hg
  have HLOW := Lib.hid (lowP_ok hg)
  simp only [] at n1 n2 n3 n4 n5 n6
  have HCR := Lib.hid cr
  have HCS := Lib.hid cs
  have HCW := Lib.hid True.intro
  have HCQ := Lib.hid cq
  have HCA := Lib.hid ca
  clear cr cs cq ca cw hok hg hst
  obtain ⟨B, hB⟩ : ∃ B, B = bodyL (⟨8, sender, media, ntp, rtp, pkts, octs, reps, name, srcs, seqs, base, ref, count, arrs, wants⟩ : Pk) := ⟨_, rfl⟩
  rw [← hB] at hbl
  obtain ⟨low, hlow⟩ : ∃ low, low = lowP (⟨8, sender, media, ntp, rtp, pkts, octs, reps, name, srcs, seqs, base, ref, count, arrs, wants⟩ : Pk) := ⟨_, rfl⟩
  obtain ⟨q, hq⟩ : ∃ q, q = w.heap.size := ⟨_, rfl⟩
  rw [← hq] at hs1
  have HBE := Lib.hid hB
  have HLE0 := Lib.hid hlow
  clear hB hlow
  go_enter Try.func18, Try.ntmps18
  go_upto_region 1 with fail
  rw [← hq]
  clear hq
  generalize World.alloc w _ = W at hs1 ⊢
  obtain ⟨hc1, hf1, hl1⟩ := Blk.all (hs1.at 0 rfl)
  have HST := Lib.hid hs1
  clear hs1
  go_upto_region 5 with fail
  clear hc1 hf1 hl1
  have HSS := Lib.hid (fun (J : Img) (w' : World) (_ : I.le J) (hs : St J (bk q 56 #[.int .i64 8, .int .u32 sender, .int .u32 media, .int .u64 ntp, .int .u32 rtp, .int .u32 pkts, .int .u32 octs, .slice rA reps.length rz, .string name, .slice sA srcs.length sz, .slice qA seqs.length qz, .int .u16 base, .int .u32 ref, .int .u8 count, .slice aA arrs.length az, .slice (some ⟨g, o, none⟩) wants.length wz] :: M) w') => (show ∀ i, w'.cell? ⟨q, i, none⟩ = (#[.int .i64 8, .int .u32 sender, .int .u32 media, .int .u64 ntp, .int .u32 rtp, .int .u32 pkts, .int .u32 octs, .slice rA reps.length rz, .string name, .slice sA srcs.length sz, .slice qA seqs.length qz, .int .u16 base, .int .u32 ref, .int .u8 count, .slice aA arrs.length az, .slice (some ⟨g, o, none⟩) wants.length wz] : Array Value)[i]? from (Blk.all (hs.at 0 rfl)).1))
  have HLB := Lib.hid (show 0 ≤ 1 from by omega)
  refine wp_region_held_drew (S := fun w' => ∀ i, w'.cell? ⟨q, i, none⟩ = (#[.int .i64 8, .int .u32 sender, .int .u32 media, .int .u64 ntp, .int .u32 rtp, .int .u32 pkts, .int .u32 octs, .slice rA reps.length rz, .string name, .slice sA srcs.length sz, .slice qA seqs.length qz, .int .u16 base, .int .u32 ref, .int .u8 count, .slice aA arrs.length az, .slice (some ⟨g, o, none⟩) wants.length wz] : Array Value)[i]?) (by kernel_rfl) (HSS.out _ _ (.refl _) HST.out.drew) (fun hHeld => ?_)
  refine wpAnyH_take (i := 0) (oi := _) (v := ?_) rfl (by kernel_rfl) (by kernel_rfl) (by kernel_rfl) (fun _ _ _ h => h) (Or.inl ⟨by rfl, ?_⟩) (by assumption) ?_
  rotate_left
  · (intro w hSw; (try dsimp only at hSw); go_simp; try with_reducible rfl)
  try simp only [Act.put, List.getElem_toArray, List.getElem_cons_zero, List.getElem_cons_succ, List.setIfInBounds_toArray, List.set_cons_zero, List.set_cons_succ]
  refine wpAnyH_take (i := 1) (oi := _) (v := ?_) rfl (by kernel_rfl) (by kernel_rfl) (by kernel_rfl) (fun _ _ _ h => h) (Or.inl ⟨by rfl, ?_⟩) (by assumption) ?_
  rotate_left
  · (intro w hSw; (try dsimp only at hSw); go_simp; try with_reducible rfl)
  try simp only [Act.put, List.getElem_toArray, List.getElem_cons_zero, List.getElem_cons_succ, List.setIfInBounds_toArray, List.set_cons_zero, List.set_cons_succ]
  refine wpAnyH_take (i := 3) (oi := _) (v := ?_) rfl (by kernel_rfl) (by kernel_rfl) (by kernel_rfl) (fun _ _ _ h => h) (Or.inl ⟨by rfl, ?_⟩) (by assumption) ?_
  rotate_left
  · (intro w hSw; (try dsimp only at hSw); go_simp; try with_reducible rfl)
  try simp only [Act.put, List.getElem_toArray, List.getElem_cons_zero, List.getElem_cons_succ, List.setIfInBounds_toArray, List.set_cons_zero, List.set_cons_succ]
  refine wpAnyH_take (i := 4) (oi := _) (v := ?_) rfl (by kernel_rfl) (by kernel_rfl) (by kernel_rfl) (fun _ _ _ h => h) (Or.inl ⟨by rfl, ?_⟩) (by assumption) ?_
  rotate_left
  · (intro w hSw; (try dsimp only at hSw); go_simp; try with_reducible rfl)
  try simp only [Act.put, List.getElem_toArray, List.getElem_cons_zero, List.getElem_cons_succ, List.setIfInBounds_toArray, List.set_cons_zero, List.set_cons_succ]
  refine anyH_ro (I := I) (M := bk q 56 #[.int .i64 8, .int .u32 sender, .int .u32 media, .int .u64 ntp, .int .u32 rtp, .int .u32 pkts, .int .u32 octs, .slice rA reps.length rz, .string name, .slice sA srcs.length sz, .slice qA seqs.length qz, .int .u16 base, .int .u32 ref, .int .u8 count, .slice aA arrs.length az, .slice (some ⟨g, o, none⟩) wants.length wz] :: M) (l := [(2, 12, u32B sender), (5, 15, u32B media)]) 3 (by kernel_rfl) (by simp only [List.map_cons, List.map_nil]; decide) (by simp only [List.map_cons, List.map_nil]; decide) HSS.out HST.out.drew ?_ ?_
  · refine List.forall_mem_cons.2 ⟨?_, List.forall_mem_cons.2 ⟨?_, fun _ h => by cases h⟩⟩
    · refine CdStep.call (o := _) rfl rfl rfl rfl (fun _ _ => rfl) ?_ (fun J w hle hs => (four_frz J _ w (sender) (HOK.out.sender) hs).mono (fun _ _ h => h))
      intro xf; simp [Act.over, setAll, Act.eval]
    · refine CdStep.call (o := _) rfl rfl rfl rfl (fun _ _ => rfl) ?_ (fun J w hle hs => (four_frz J _ w (media) (HOK.out.media) hs).mono (fun _ _ h => h))
      intro xf; simp [Act.over, setAll, Act.eval]
  · intro xf J w hle hs hx
    have r0 : RoB (u32B sender) (xf 12) J := hx (2, 12, u32B sender) (by simp)
    have r1 : RoB (u32B media) (xf 15) J := hx (5, 15, u32B media) (by simp)
    simp only [List.map_cons, List.map_nil, Act.over, setAll, List.foldl_cons, List.foldl_nil, List.setIfInBounds_toArray, List.set_cons_zero, List.set_cons_succ]
    generalize xf 12 = v12 at *
    obtain ⟨A12, c12, rfl, b12⟩ := r0
    generalize xf 15 = v15 at *
    obtain ⟨A15, c15, rfl, b15⟩ := r1
    clear hx
    refine wpAnyH_ready (rs := [6]) (by kernel_rfl) (by simp) ?_
    refine AllReadyH.cons (o := _) rfl (fun K hK => ?_) AllReadyH.nil
    go_simp
    try clear hHeld
    refine hK.out _ _ (HSS.out J _ hle (hs.grow _)) (fun hHeld => ?_)
    clear hK K
    try simp only [Act.put, List.getElem_toArray, List.getElem_cons_zero, List.getElem_cons_succ, List.setIfInBounds_toArray, List.set_cons_zero, List.set_cons_succ]
    obtain ⟨J2, hle2, hs2, hobj⟩ := (hs.alloc 24 #[.slice A12 (u32B sender).length c12, .slice A15 (u32B media).length c15]).freezeBlk
    have hcs := Cells.ofBlk hobj
    refine wpAnyH_ready (rs := [7]) (by kernel_rfl) (by simp) ?_
    refine AllReadyH.cons (o := _) rfl (fun K hK => ?_) AllReadyH.nil
    go_simp
    go_at_call 35
    refine (joinR J2 (bk q 56 #[.int .i64 8, .int .u32 sender, .int .u32 media, .int .u64 ntp, .int .u32 rtp, .int .u32 pkts, .int .u32 octs, .slice rA reps.length rz, .string name, .slice sA srcs.length sz, .slice qA seqs.length qz, .int .u16 base, .int .u32 ref, .int .u8 count, .slice aA arrs.length az, .slice (some ⟨g, o, none⟩) wants.length wz] :: M) _ (some ⟨w.heap.size, 0, none⟩) 2 [u32B sender, u32B media] [.slice A12 (u32B sender).length c12, .slice A15 (u32B media).length c15] hcs ⟨⟨A12, c12, rfl, b12.mono hle2⟩, ⟨A15, c15, rfl, b15.mono hle2⟩, trivial⟩ (by simp) (by have := HLB.out; simp only [List.flatten_cons, List.flatten_nil, List.length_append, List.length_cons, List.length_nil, u32B_len, u16B_len]; omega) hs2).mono ?_
    rintro e w3 ⟨_, _, _, rfl, _, hs3, rfl, A3, c3, rfl, hc3, rfl⟩
    obtain ⟨fl, hfl⟩ : ∃ z : List UInt8, z = ([u32B sender, u32B media] : List (List UInt8)).flatten := ⟨_, rfl⟩
    rw [← hfl] at hs3 hc3 ⊢
    have HFLAT := Lib.hid hfl
    clear hfl
    try clear hHeld
    refine hK.out _ _ (HSS.out J2 _ (hle.trans hle2) hs3.drop) (fun hHeld => ?_)
    clear hK K
    try simp only [Act.put, List.getElem_toArray, List.getElem_cons_zero, List.getElem_cons_succ, List.setIfInBounds_toArray, List.set_cons_zero, List.set_cons_succ]
    refine wpAnyH_take (i := 8) (oi := _) (v := ?_) rfl (by kernel_rfl) (by kernel_rfl) (by kernel_rfl) (fun _ _ _ h => h) (Or.inl ⟨by rfl, ?_⟩) (by assumption) ?_
    rotate_left
    · (intro w hSw; (try dsimp only at hSw); go_simp; try with_reducible rfl)
    try simp only [Act.put, List.getElem_toArray, List.getElem_cons_zero, List.getElem_cons_succ, List.setIfInBounds_toArray, List.set_cons_zero, List.set_cons_succ]
    refine wpAnyH_done (by kernel_rfl) ?_ _
    have HS := Lib.hid hs3
    have HLE := Lib.hid (hle.trans hle2)
    have HFL0 := Lib.hid HFLAT.out
    clear hs hs2 hs3 hHeld hle hle2 hcs hobj HFLAT hc3
    obtain ⟨hcq, hfq, hlq⟩ := Blk.all (HS.out.at 1 rfl)
    go_upto_region 7 with fail
    clear hcq hfq hlq
    have HFL8 := Lib.hid (show fl.length = 8 by rw [HFL0.out]; simp [u32B_len])
    go_loopw [3, 21] (fun bv iv wr => ∃ (A : Option Addr) (n c i : Nat), bv = .slice A n c ∧ iv = .int .i64 i ∧ i ≤ wants.length ∧ n = 8 + 8 * i ∧ Hid (∃ (J : Img), I.le J ∧ St J (row 5 1 (.slice A n c) n (bvs (fl ++ (wants.take i).flatMap wnL)) :: bk q 56 #[.int .i64 8, .int .u32 sender, .int .u32 media, .int .u64 ntp, .int .u32 rtp, .int .u32 pkts, .int .u32 octs, .slice rA reps.length rz, .string name, .slice sA srcs.length sz, .slice qA seqs.length qz, .int .u16 base, .int .u32 ref, .int .u8 count, .slice aA arrs.length az, .slice (some ⟨g, o, none⟩) wants.length wz] :: M) wr)) (fun _ iv _ => wants.length - (intOf iv).toNat)
    case atStart => exact ⟨_, _, _, 0, rfl, rfl, by omega, HFL8.out, Lib.hid ⟨_, HLE.out, by simpa using HS.out⟩⟩
    case round =>
      obtain ⟨A, n, c, i, rfl, rfl, hi, hn, hh⟩ := hrel
      obtain ⟨J0, hle0, hs0⟩ := hh.out
      clear hh HS HLE
      by_cases hlt : i < wants.length
      · skip
        have hcl : ∀ (M' : List Res) (J' : Img) (w' : World), J0.le J' → St J' M' w' → ∀ j, j < 2 → w'.cell? ⟨g, o + i * 2 + j, none⟩ = (wnC wants[i])[j]? := fun M' J' w' hl h j hj => HCELL.out _ _ (h.less (hle0.trans hl)) i hlt j hj
        have hm := HOK.out.wants _ (List.getElem_mem hlt)
        have hsn := fm_snoc wnL wants i hlt
        generalize wants[i] = x at hcl hm hsn
        have HCL := Lib.hid hcl
        have HM := Lib.hid hm
        have hm2 := hm.2
        obtain ⟨q1, q2⟩ := hm2
        have hjw : IntKind.i64.wrap (i : Int) = (i : Int) := wrap_i64 (by omega) (by omega)
        obtain ⟨bl, hbe⟩ : ∃ bl, bl = fl ++ (wants.take i).flatMap wnL := ⟨_, rfl⟩
        have hbl2 : bl.length = n := by have hfl8 := HFL8.out; rw [hbe, List.length_append, fm_len (s := 8) (fun _ => rfl), List.length_take]; omega
        rw [← hbe] at hs0
        obtain ⟨J1, hle1, hs1, hb1⟩ := hs0.freezeRow
        have HB1 := Lib.hid (show Byts J1 A bl from hb1)
        have HSN := Lib.hid (And.intro hbe hsn)
        have HST := Lib.hid hs1
        have HLE := Lib.hid (hle0.trans hle1)
        have HLB := Lib.hid (show bl.length ≤ 100 by omega)
        have HBL2 := Lib.hid hbl2
        have HN := Lib.hid hn
        have HSS2 := Lib.hid (fun (J : Img) (w' : World) (hl : J1.le J) (hs : St J (bk q 56 #[.int .i64 8, .int .u32 sender, .int .u32 media, .int .u64 ntp, .int .u32 rtp, .int .u32 pkts, .int .u32 octs, .slice rA reps.length rz, .string name, .slice sA srcs.length sz, .slice qA seqs.length qz, .int .u16 base, .int .u32 ref, .int .u8 count, .slice aA arrs.length az, .slice (some ⟨g, o, none⟩) wants.length wz] :: M) w') => (show (∀ i, w'.cell? ⟨q, i, none⟩ = (#[.int .i64 8, .int .u32 sender, .int .u32 media, .int .u64 ntp, .int .u32 rtp, .int .u32 pkts, .int .u32 octs, .slice rA reps.length rz, .string name, .slice sA srcs.length sz, .slice qA seqs.length qz, .int .u16 base, .int .u32 ref, .int .u8 count, .slice aA arrs.length az, .slice (some ⟨g, o, none⟩) wants.length wz] : Array Value)[i]?) ∧ w'.cell? ⟨g, o + i * 2, none⟩ = some (.int .u32 x.src) ∧ w'.cell? ⟨g, o + i * 2 + 1, none⟩ = some (.int .u8 x.seq) from ⟨(Blk.all (hs.at 0 rfl)).1, HCL.out _ J w' (hle1.trans hl) hs 0 (by decide), HCL.out _ J w' (hle1.trans hl) hs 1 (by decide)⟩))
        clear hs0 hs1 hle0 hle1 hb1 hcl hsn hbe hm hn hbl2
        go_upto_region 9 with fail
        refine wp_region_held_drew (S := fun w' => (∀ i, w'.cell? ⟨q, i, none⟩ = (#[.int .i64 8, .int .u32 sender, .int .u32 media, .int .u64 ntp, .int .u32 rtp, .int .u32 pkts, .int .u32 octs, .slice rA reps.length rz, .string name, .slice sA srcs.length sz, .slice qA seqs.length qz, .int .u16 base, .int .u32 ref, .int .u8 count, .slice aA arrs.length az, .slice (some ⟨g, o, none⟩) wants.length wz] : Array Value)[i]?) ∧ w'.cell? ⟨g, o + i * 2, none⟩ = some (.int .u32 x.src) ∧ w'.cell? ⟨g, o + i * 2 + 1, none⟩ = some (.int .u8 x.seq)) (by kernel_rfl) (HSS2.out _ _ (.refl _) HST.out.drew) (fun hHeld => ?_)
        refine wpAnyH_take (i := 0) (oi := _) (v := ?_) rfl (by kernel_rfl) (by kernel_rfl) (by kernel_rfl) (fun _ _ _ h => h) (Or.inl ⟨by rfl, ?_⟩) (by assumption) ?_
        rotate_left
        · (intro w hSw; (try dsimp only at hSw); go_simp; try with_reducible rfl)
        try simp only [Act.put, List.getElem_toArray, List.getElem_cons_zero, List.getElem_cons_succ, List.setIfInBounds_toArray, List.set_cons_zero, List.set_cons_succ]
        refine wpAnyH_take (i := 1) (oi := _) (v := ?_) rfl (by kernel_rfl) (by kernel_rfl) (by kernel_rfl) (fun _ _ _ h => h) (Or.inl ⟨by rfl, ?_⟩) (by assumption) ?_
        rotate_left
        · (intro w hSw; (try dsimp only at hSw); go_simp; try with_reducible rfl)
        try simp only [Act.put, List.getElem_toArray, List.getElem_cons_zero, List.getElem_cons_succ, List.setIfInBounds_toArray, List.set_cons_zero, List.set_cons_succ]
        refine wpAnyH_take (i := 2) (oi := _) (v := ?_) rfl (by kernel_rfl) (by kernel_rfl) (by kernel_rfl) (fun _ _ _ h => h) (Or.inl ⟨by rfl, ?_⟩) (by assumption) ?_
        rotate_left
        · (intro w hSw; (try dsimp only at hSw); go_simp; try with_reducible rfl)
        try simp only [Act.put, List.getElem_toArray, List.getElem_cons_zero, List.getElem_cons_succ, List.setIfInBounds_toArray, List.set_cons_zero, List.set_cons_succ]
        refine wpAnyH_take (i := 3) (oi := _) (v := ?_) rfl (by kernel_rfl) (by kernel_rfl) (by kernel_rfl) (fun _ _ _ h => h) (Or.inl ⟨by rfl, ?_⟩) (by assumption) ?_
        rotate_left
        · (intro w hSw; (try dsimp only at hSw); go_simp; try with_reducible rfl)
        try simp only [Act.put, List.getElem_toArray, List.getElem_cons_zero, List.getElem_cons_succ, List.setIfInBounds_toArray, List.set_cons_zero, List.set_cons_succ]
        refine wpAnyH_take (i := 4) (oi := _) (v := ?_) rfl (by kernel_rfl) (by kernel_rfl) (by kernel_rfl) (fun _ _ _ h => h) (Or.inl ⟨by rfl, ?_⟩) (by assumption) ?_
        rotate_left
        · (intro w hSw; (try dsimp only at hSw); go_simp; try with_reducible rfl)
        try simp only [Act.put, List.getElem_toArray, List.getElem_cons_zero, List.getElem_cons_succ, List.setIfInBounds_toArray, List.set_cons_zero, List.set_cons_succ]
        refine wpAnyH_take (i := 5) (oi := _) (v := ?_) rfl (by kernel_rfl) (by kernel_rfl) (by kernel_rfl) (fun _ _ _ h => h) (Or.inl ⟨by rfl, ?_⟩) (by assumption) ?_
        rotate_left
        · (intro w hSw; (try dsimp only at hSw); go_simp; try with_reducible rfl)
        try simp only [Act.put, List.getElem_toArray, List.getElem_cons_zero, List.getElem_cons_succ, List.setIfInBounds_toArray, List.set_cons_zero, List.set_cons_succ]
        refine wpAnyH_take (i := 6) (oi := _) (v := ?_) rfl (by kernel_rfl) (by kernel_rfl) (by kernel_rfl) (fun _ _ _ h => h) (Or.inl ⟨by rfl, ?_⟩) (by assumption) ?_
        rotate_left
        · (intro w hSw; (try dsimp only at hSw); go_simp; try with_reducible rfl)
        try simp only [Act.put, List.getElem_toArray, List.getElem_cons_zero, List.getElem_cons_succ, List.setIfInBounds_toArray, List.set_cons_zero, List.set_cons_succ]
        refine wpAnyH_take (i := 8) (oi := _) (v := ?_) rfl (by kernel_rfl) (by kernel_rfl) (by kernel_rfl) (fun _ _ _ h => h) (Or.inl ⟨by rfl, ?_⟩) (by assumption) ?_
        rotate_left
        · (intro w hSw; (try dsimp only at hSw); go_simp; try with_reducible rfl)
        try simp only [Act.put, List.getElem_toArray, List.getElem_cons_zero, List.getElem_cons_succ, List.setIfInBounds_toArray, List.set_cons_zero, List.set_cons_succ]
        refine wpAnyH_take (i := 9) (oi := _) (v := ?_) rfl (by kernel_rfl) (by kernel_rfl) (by kernel_rfl) (fun _ _ _ h => h) (Or.inl ⟨by rfl, ?_⟩) (by assumption) ?_
        rotate_left
        · (intro w hSw; (try dsimp only at hSw); go_simp; try with_reducible rfl)
        try simp only [Act.put, List.getElem_toArray, List.getElem_cons_zero, List.getElem_cons_succ, List.setIfInBounds_toArray, List.set_cons_zero, List.set_cons_succ]
        refine wpAnyH_take (i := 10) (oi := _) (v := ?_) rfl (by kernel_rfl) (by kernel_rfl) (by kernel_rfl) (fun _ _ _ h => h) (Or.inl ⟨by rfl, ?_⟩) (by assumption) ?_
        rotate_left
        · (intro w hSw; (try dsimp only at hSw); go_simp; try with_reducible rfl)
        try simp only [Act.put, List.getElem_toArray, List.getElem_cons_zero, List.getElem_cons_succ, List.setIfInBounds_toArray, List.set_cons_zero, List.set_cons_succ]
        refine wpAnyH_take (i := 11) (oi := _) (v := ?_) rfl (by kernel_rfl) (by kernel_rfl) (by kernel_rfl) (fun _ _ _ h => h) (Or.inl ⟨by rfl, ?_⟩) (by assumption) ?_
        rotate_left
        · (intro w hSw; (try dsimp only at hSw); go_simp; try with_reducible rfl)
        try simp only [Act.put, List.getElem_toArray, List.getElem_cons_zero, List.getElem_cons_succ, List.setIfInBounds_toArray, List.set_cons_zero, List.set_cons_succ]
        refine wpAnyH_take (i := 12) (oi := _) (v := ?_) rfl (by kernel_rfl) (by kernel_rfl) (by kernel_rfl) (fun _ _ _ h => h) (Or.inl ⟨by rfl, ?_⟩) (by assumption) ?_
        rotate_left
        · (intro w hSw; (try dsimp only at hSw); go_simp; try with_reducible rfl)
        try simp only [Act.put, List.getElem_toArray, List.getElem_cons_zero, List.getElem_cons_succ, List.setIfInBounds_toArray, List.set_cons_zero, List.set_cons_succ]
        refine wpAnyH_take (i := 13) (oi := _) (v := ?_) rfl (by kernel_rfl) (by kernel_rfl) (by kernel_rfl) (fun _ _ _ h => h) (Or.inl ⟨by rfl, ?_⟩) (by assumption) ?_
        rotate_left
        · (intro w hSw; (try dsimp only at hSw); go_simp; try with_reducible rfl)
        try simp only [Act.put, List.getElem_toArray, List.getElem_cons_zero, List.getElem_cons_succ, List.setIfInBounds_toArray, List.set_cons_zero, List.set_cons_succ]
        refine anyH_ro (I := J1) (M := bk q 56 #[.int .i64 8, .int .u32 sender, .int .u32 media, .int .u64 ntp, .int .u32 rtp, .int .u32 pkts, .int .u32 octs, .slice rA reps.length rz, .string name, .slice sA srcs.length sz, .slice qA seqs.length qz, .int .u16 base, .int .u32 ref, .int .u8 count, .slice aA arrs.length az, .slice (some ⟨g, o, none⟩) wants.length wz] :: M) (l := [(7, 31, u32B x.src), (14, 38, [byteOf x.seq, byteOf 0, byteOf 0, byteOf 0])]) 3 (by kernel_rfl) (by simp only [List.map_cons, List.map_nil]; decide) (by simp only [List.map_cons, List.map_nil]; decide) HSS2.out HST.out.drew ?_ ?_
        · refine List.forall_mem_cons.2 ⟨?_, List.forall_mem_cons.2 ⟨?_, fun _ h => by cases h⟩⟩
          · refine CdStep.call (o := _) rfl rfl rfl rfl (fun _ _ => rfl) ?_ (fun J w hle hs => (four_frz J _ w (x.src) (HM.out.1) hs).mono (fun _ _ h => h))
            intro xf; simp [Act.over, setAll, Act.eval]
          · refine CdStep.lit (o := _) rfl rfl rfl rfl (fun xf J w hle hs => ?_)
            obtain ⟨J9, hle9, hs9, hobj⟩ := (hs.alloc 5 #[.int .u8 x.seq, .int .u8 0, .int .u8 0, .int .u8 0]).freezeBlk
            refine ⟨.slice (some ⟨w.heap.size, 0, none⟩) 4 4, J9, w.alloc (.cells #[.int .u8 x.seq, .int .u8 0, .int .u8 0, .int .u8 0] 5), ?_, hle9, hs9, ⟨_, 4, rfl, Byts.ofBlk hobj (lit_four q1 (by omega))⟩⟩
            simp only [Act.over, setAll, List.map_cons, List.map_nil, List.foldl_cons, List.foldl_nil, List.setIfInBounds_toArray, List.set_cons_zero, List.set_cons_succ]
            kernel_rfl
        · intro xf J w hle hs hx
          have r0 : RoB (u32B x.src) (xf 31) J := hx (7, 31, u32B x.src) (by simp)
          have r1 : RoB ([byteOf x.seq, byteOf 0, byteOf 0, byteOf 0]) (xf 38) J := hx (14, 38, [byteOf x.seq, byteOf 0, byteOf 0, byteOf 0]) (by simp)
          simp only [List.map_cons, List.map_nil, Act.over, setAll, List.foldl_cons, List.foldl_nil, List.setIfInBounds_toArray, List.set_cons_zero, List.set_cons_succ]
          generalize xf 31 = v31 at *
          obtain ⟨A31, c31, rfl, b31⟩ := r0
          generalize xf 38 = v38 at *
          obtain ⟨A38, c38, rfl, b38⟩ := r1
          clear hx
          refine wpAnyH_ready (rs := [15]) (by kernel_rfl) (by simp) ?_
          refine AllReadyH.cons (o := _) rfl (fun K hK => ?_) AllReadyH.nil
          go_simp
          try clear hHeld
          refine hK.out _ _ (HSS2.out J _ hle (hs.grow _)) (fun hHeld => ?_)
          clear hK K
          try simp only [Act.put, List.getElem_toArray, List.getElem_cons_zero, List.getElem_cons_succ, List.setIfInBounds_toArray, List.set_cons_zero, List.set_cons_succ]
          obtain ⟨J2, hle2, hs2, hobj⟩ := (hs.alloc 24 #[.slice A n c, .slice A31 (u32B x.src).length c31, .slice A38 ([byteOf x.seq, byteOf 0, byteOf 0, byteOf 0]).length c38]).freezeBlk
          have hcs := Cells.ofBlk hobj
          refine wpAnyH_ready (rs := [16]) (by kernel_rfl) (by simp) ?_
          refine AllReadyH.cons (o := _) rfl (fun K hK => ?_) AllReadyH.nil
          go_simp
          go_at_call 35
          refine (joinR J2 (bk q 56 #[.int .i64 8, .int .u32 sender, .int .u32 media, .int .u64 ntp, .int .u32 rtp, .int .u32 pkts, .int .u32 octs, .slice rA reps.length rz, .string name, .slice sA srcs.length sz, .slice qA seqs.length qz, .int .u16 base, .int .u32 ref, .int .u8 count, .slice aA arrs.length az, .slice (some ⟨g, o, none⟩) wants.length wz] :: M) _ (some ⟨w.heap.size, 0, none⟩) 3 [bl, u32B x.src, [byteOf x.seq, byteOf 0, byteOf 0, byteOf 0]] [.slice A n c, .slice A31 (u32B x.src).length c31, .slice A38 ([byteOf x.seq, byteOf 0, byteOf 0, byteOf 0]).length c38] hcs ⟨⟨A, c, by rw [HBL2.out], (HB1.out.mono hle).mono hle2⟩, ⟨A31, c31, rfl, b31.mono hle2⟩, ⟨A38, c38, rfl, b38.mono hle2⟩, trivial⟩ (by simp) (by have := HLB.out; simp only [List.flatten_cons, List.flatten_nil, List.length_append, List.length_cons, List.length_nil, u32B_len, u16B_len]; omega) hs2).mono ?_
          rintro e w3 ⟨_, _, _, rfl, _, hs3, rfl, A3, c3, rfl, hc3, rfl⟩
          obtain ⟨fm, hfl⟩ : ∃ z : List UInt8, z = ([bl, u32B x.src, [byteOf x.seq, byteOf 0, byteOf 0, byteOf 0]] : List (List UInt8)).flatten := ⟨_, rfl⟩
          rw [← hfl] at hs3 hc3 ⊢
          have HFLAT := Lib.hid hfl
          clear hfl
          try clear hHeld
          refine hK.out _ _ (HSS2.out J2 _ (hle.trans hle2) hs3.drop) (fun hHeld => ?_)
          clear hK K
          try simp only [Act.put, List.getElem_toArray, List.getElem_cons_zero, List.getElem_cons_succ, List.setIfInBounds_toArray, List.set_cons_zero, List.set_cons_succ]
          refine wpAnyH_take (i := 17) (oi := _) (v := ?_) rfl (by kernel_rfl) (by kernel_rfl) (by kernel_rfl) (fun _ _ _ h => h) (Or.inl ⟨by rfl, ?_⟩) (by assumption) ?_
          rotate_left
          · (intro w hSw; (try dsimp only at hSw); go_simp; try with_reducible rfl)
          try simp only [Act.put, List.getElem_toArray, List.getElem_cons_zero, List.getElem_cons_succ, List.setIfInBounds_toArray, List.set_cons_zero, List.set_cons_succ]
          refine wpAnyH_done (by kernel_rfl) ?_ _
          have hfe : fm = fl ++ (wants.take (i + 1)).flatMap wnL := by
            rw [HFLAT.out, HSN.out.2, HSN.out.1, ← wn_four q1 q2]
            simp
          have hln : fm.length = n + 8 := by rw [HFLAT.out]; simp [u32B_len, HBL2.out]
          rw [hfe] at hs3
          rw [← hfe, hln] at hs3
          rw [hln]
          rw [hfe] at hs3
          have HS4 := Lib.hid hs3
          have HLE4 := Lib.hid ((HLE.out.trans hle).trans hle2)
          clear hs hs2 hs3 hHeld hle hle2 hcs hobj HFLAT hfe hc3 hln
          go_wp2
          go_roundw
          case rel => exact ⟨A3, n + 8, c3, i + 1, rfl, by go_num, by omega, by have := HN.out; omega, Lib.hid ⟨_, HLE4.out, HS4.out⟩⟩
          case measure => simp [intOf]; omega
      · have hin : i = wants.length := by omega
        rw [List.take_of_length_le (by omega)] at hs0
        subst hin
        obtain ⟨fm, hfm⟩ : ∃ fm, fm = fl ++ wants.flatMap wnL := ⟨_, rfl⟩
        have hbq : fm = B := by rw [hfm, HFL0.out, HBE.out]; exact body8 HGD.out
        have hn5 : fm.length = n := by have hfl8 := HFL8.out; rw [hfm, List.length_append, fm_len (s := 8) (fun _ => rfl)]; omega
        rw [← hfm] at hs0
        clear hfm
        subst hbq
        rw [← hn5] at hs0 ⊢
        have HS := Lib.hid hs0
        have HLE := Lib.hid hle0
        clear hs0 hle0 hn5 hn
        generalize J0 = J2 at *
        go_upto_region 36 with fail
        go_loopw [3] (fun bv wr => ∃ (A : Option Addr) (n c : Nat), bv = .slice A n c ∧ n ≤ 4000 ∧ Hid (∃ (j : Nat) (J : Img), n = fm.length + j ∧ j ≤ (4 - fm.length % 4) % 4 ∧ I.le J ∧ St J (row 5 1 (.slice A n c) n (bvs (fm ++ List.replicate j 0)) :: bk q 56 #[.int .i64 8, .int .u32 sender, .int .u32 media, .int .u64 ntp, .int .u32 rtp, .int .u32 pkts, .int .u32 octs, .slice rA reps.length rz, .string name, .slice sA srcs.length sz, .slice qA seqs.length qz, .int .u16 base, .int .u32 ref, .int .u8 count, .slice aA arrs.length az, .slice (some ⟨g, o, none⟩) wants.length wz] :: M) wr)) (fun bv _ => (4 - sliceLen bv % 4) % 4)
        case atStart => exact ⟨_, _, _, rfl, by omega, Lib.hid ⟨0, J2, rfl, Nat.zero_le _, HLE.out, by simpa using HS.out⟩⟩
        case round =>
          obtain ⟨A, n, c, rfl, hn, hh⟩ := hrel
          obtain ⟨j, J, hnj, hj, hle, hs⟩ := hh.out
          clear hh HS HLE
          have hln : (fm ++ List.replicate j 0).length = n := by rw [hnj]; simp
          have HLN := Lib.hid hln
          have HRP := Lib.hid (rep_snoc j)
          have HNJ := Lib.hid hnj
          by_cases hlt : j < (4 - fm.length % 4) % 4
          · have hm : ((n : Int) % 4 != 0) = true := by rw [bne_iff_ne]; omega
            obtain ⟨J3, hle3, hs3, hobj⟩ := (hs.alloc 5 #[.int .u8 0]).freezeBlk
            have HB1 := Lib.hid (show RoB [0] (.slice (some ⟨wr.heap.size, 0, none⟩) 1 1) J3 from ⟨_, 1, rfl, Byts.ofBlk hobj rfl⟩)
            obtain ⟨bl, hbe⟩ : ∃ bl, bl = fm ++ List.replicate j 0 := ⟨_, rfl⟩
            rw [← hbe] at hs3 hln
            rw [← hln] at hs3
            have HBL := Lib.hid hbe
            have HS3 := Lib.hid hs3
            have HLE := Lib.hid (hle.trans hle3)
            have HLT := Lib.hid hlt
            have HLL := Lib.hid hln
            clear hbe hle hle3 hs hs3 hobj hnj hj hln hlt
            go_wp2_with (at_builtin; refine wpList_appB rfl _ _ rfl J3 _ _ _ _ _ (by rw [HLL.out]; rfl) rfl HS3.out HB1.out (by have := HLL.out; simp only [List.length_cons, List.length_nil]; omega) ?_)
            intro v3 w3 hs4
            obtain ⟨A5, c5, rfl⟩ := own_form (show World.ownsRow _ 0 5 1 v3 _ _ from St.at hs4 0 rfl)
            have hl5 : (bl ++ [0]).length = n + 1 := by rw [List.length_append, HLL.out]; rfl
            have hs5 := show St J3 _ w3 from hs4
            rw [hl5] at hs5 ⊢
            have HS5 := Lib.hid hs5
            clear hs4 hs5 HS3 HB1 hl5
            go_wp2
            go_roundw
            case rel =>
              refine ⟨A5, n + 1, c5, rfl, by have := HLT.out; have := HNJ.out; omega, Lib.hid ⟨j + 1, J3, by have := HNJ.out; omega, by have := HLT.out; omega, HLE.out, ?_⟩⟩
              have := HS5.out
              rw [HBL.out, List.append_assoc, ← HRP.out] at this
              exact this
            case measure =>
              have h1 := HNJ.out
              have h2 := HLT.out
              show (4 - (n + 1) % 4) % 4 < (4 - n % 4) % 4
              omega
          · have hm : ((n : Int) % 4 != 0) = false := by rw [bne_eq_false_iff_eq]; omega
            have hjj : j = (4 - fm.length % 4) % 4 := by omega
            rw [hjj, even_rep] at hs hln
            obtain ⟨E, hE⟩ : ∃ E, E = evenL fm := ⟨_, rfl⟩
            rw [← hE] at hs hln
            have HE := Lib.hid hE
            obtain ⟨J3, hle3, hs3, hb3⟩ := hs.freezeRow
            have HS3 := Lib.hid hs3
            have HB3 := Lib.hid (show Byts J3 A E from hb3)
            have HLE := Lib.hid (hle.trans hle3)
            have HLL := Lib.hid hln
            clear hs hs3 hb3 hle hle3 hE hln hnj hj hjj hlt
            have HV := Lib.hid (show [byteOf (132), byteOf 206] ++ u16B ((E.length / 4 : Nat) : Int) ++ E = packB (⟨8, sender, media, ntp, rtp, pkts, octs, reps, name, srcs, seqs, base, ref, count, arrs, wants⟩ : Pk) by
              have e1 : 128 + low = 132 := by rw [HLE0.out]; rfl
              rw [← e1, HLE0.out, HE.out, HBE.out]
              rfl)
            obtain ⟨J4, hle4, hs4, hobj⟩ := (HS3.out.alloc 5 #[.int .u8 (132), .int .u8 206]).freezeBlk
            have HB4 := Lib.hid (show Byts J4 (some ⟨wr.heap.size, 0, none⟩) [byteOf (132), byteOf 206] from Byts.ofBlk hobj (lit_two (by omega) (by omega)))
            have HT := Lib.hid (twoR J4 _ _ ((n : Int) / 4) hs4)
            have HLE4 := Lib.hid hle4
            clear hle4 hs4 hobj HS3
            go_wp2_with fail
            go_at_call 39
            refine HT.out.mono ?_
            clear HT
            rintro e w2 ⟨_, _, _, rfl, _, hs1, rfl, A6, c6, rfl, hc6, rfl⟩
            obtain ⟨J5, hle5, hs5, hb5⟩ := hs1.freezeRow
            have hb5 : Byts J5 A6 (u16B ((n : Int) / 4 % 65536)) := hb5
            obtain ⟨J6, hle6, hs6, hobj⟩ := (hs5.alloc 24 #[.slice (some ⟨wr.heap.size, 0, none⟩) 2 2, .slice A6 (u16B ((n : Int) / 4 % 65536)).length c6, .slice A n c]).freezeBlk
            have hcs := Cells.ofBlk hobj
            have HJ := Lib.hid (joinR J6 (bk q 56 #[.int .i64 8, .int .u32 sender, .int .u32 media, .int .u64 ntp, .int .u32 rtp, .int .u32 pkts, .int .u32 octs, .slice rA reps.length rz, .string name, .slice sA srcs.length sz, .slice qA seqs.length qz, .int .u16 base, .int .u32 ref, .int .u8 count, .slice aA arrs.length az, .slice (some ⟨g, o, none⟩) wants.length wz] :: M) _ (some ⟨w2.heap.size, 0, none⟩) 3 [[byteOf (132), byteOf 206], u16B ((n : Int) / 4 % 65536), E] [.slice (some ⟨wr.heap.size, 0, none⟩) 2 2, .slice A6 (u16B ((n : Int) / 4 % 65536)).length c6, .slice A n c] hcs ⟨⟨_, 2, rfl, (HB4.out.mono hle5).mono hle6⟩, ⟨A6, c6, rfl, hb5.mono hle6⟩, ⟨A, c, by rw [HLL.out], ((HB3.out.mono HLE4.out).mono hle5).mono hle6⟩, trivial⟩ (by simp) (by have := HLL.out; simp only [List.flatten_cons, List.flatten_nil, List.length_append, List.length_cons, List.length_nil, u16B_len]; omega) hs6)
            have HL := Lib.hid (((HLE.out.trans HLE4.out).trans hle5).trans hle6)
            clear hs1 hs5 hs6 hb5 hc6 hobj hcs hle5 hle6 HB3 HB4
            go_wp2_with fail
            go_at_call 35
            refine HJ.out.mono ?_
            clear HJ
            rintro e w4 ⟨_, _, _, rfl, _, hs7, rfl, A7, c7, rfl, hc7, rfl⟩
            have HPE := Lib.hid (show ([[byteOf (132), byteOf 206], u16B ((n : Int) / 4 % 65536), E] : List (List UInt8)).flatten = packB (⟨8, sender, media, ntp, rtp, pkts, octs, reps, name, srcs, seqs, base, ref, count, arrs, wants⟩ : Pk) by
              rw [← HV.out, HLL.out]
              have e2 : (n : Int) / 4 % 65536 = ((n / 4 : Nat) : Int) := by omega
              rw [e2]
              simp)
            rw [HPE.out] at hs7 hc7 ⊢
            have HF := Lib.hid (show Bui I M (⟨8, sender, media, ntp, rtp, pkts, octs, reps, name, srcs, seqs, base, ref, count, arrs, wants⟩ : Pk) (.returned _) w4 from Ret.mk HL.out (St.swap1 hs7).drop ⟨A7, c7, rfl, rfl⟩)
            clear hs7 hc7 HPE HV
            generalize packB (⟨8, sender, media, ntp, rtp, pkts, octs, reps, name, srcs, seqs, base, ref, count, arrs, wants⟩ : Pk) = pbs at *
            go_wp2
            go_returns
            exact HF.out
end Go.Proofs.Ytddopbbmgpnjjaa
