/- rostrumref13.Build. -/
import Derived.Test.YtddopbbmgpnjjaaRdH
namespace Go.Proofs.Ytddopbbmgpnjjaa
open Go.RowKit
set_option linter.unusedSimpArgs false

set_option maxRecDepth 100000 in
set_option maxHeartbeats 40000000 in
theorem build1 (I : Img) (M : List Res) (w : World) (sender : Int) (media : Int) (ntp : Int) (rtp : Int) (pkts : Int) (octs : Int) (base : Int) (ref : Int) (count : Int) (name : ByteArray) (reps : List Rp) (srcs seqs arrs : List Int) (wants : List Wn) (rA : Option Addr) (rz : Nat) (sA : Option Addr) (sz : Nat) (qA : Option Addr) (qz : Nat) (aA : Option Addr) (az : Nat) (wA : Option Addr) (wz : Nat) (cr : Cells I rA (flat repC reps)) (cs : Cells I sA (flat u32C srcs)) (cq : Cells I qA (flat u16C seqs)) (ca : Cells I aA (flat intC arrs)) (cw : Cells I wA (flat wnC wants)) (hok : PkOk (⟨1, sender, media, ntp, rtp, pkts, octs, reps, name, srcs, seqs, base, ref, count, arrs, wants⟩ : Pk)) (hg : Good (⟨1, sender, media, ntp, rtp, pkts, octs, reps, name, srcs, seqs, base, ref, count, arrs, wants⟩ : Pk)) (hst : St I M w) :
    Calls Try.prog 18 #[.agg #[.int .i64 1, .int .u32 sender, .int .u32 media, .int .u64 ntp, .int .u32 rtp, .int .u32 pkts, .int .u32 octs, .slice rA reps.length rz, .string name, .slice sA srcs.length sz, .slice qA seqs.length qz, .int .u16 base, .int .u32 ref, .int .u8 count, .slice aA arrs.length az, .slice wA wants.length wz]] w (Bui I M (⟨1, sender, media, ntp, rtp, pkts, octs, reps, name, srcs, seqs, base, ref, count, arrs, wants⟩ : Pk)) := by
  have hs1 := hst.alloc 56 #[.int .i64 1, .int .u32 sender, .int .u32 media, .int .u64 ntp, .int .u32 rtp, .int .u32 pkts, .int .u32 octs, .slice rA reps.length rz, .string name, .slice sA srcs.length sz, .slice qA seqs.length qz, .int .u16 base, .int .u32 ref, .int .u8 count, .slice aA arrs.length az, .slice wA wants.length wz]
  have HOK := Lib.hid hok
  have HGD := Lib.hid hg
  have hbl := body_len hg
  obtain ⟨n1, n2, n3, n4, n5, n6⟩ := good_lens hg
  have HLOW := Lib.hid (lowP_ok hg)
  simp only [] at n1 n2 n3 n4 n5 n6
  have HCR := Lib.hid cr
  have HCS := Lib.hid cs
  have HCW := Lib.hid cw
  have HCQ := Lib.hid cq
  have HCA := Lib.hid ca
  clear cr cs cq ca cw hok hg hst
  obtain ⟨B, hB⟩ : ∃ B, B = bodyL (⟨1, sender, media, ntp, rtp, pkts, octs, reps, name, srcs, seqs, base, ref, count, arrs, wants⟩ : Pk) := ⟨_, rfl⟩
  rw [← hB] at hbl
  obtain ⟨low, hlow⟩ : ∃ low, low = lowP (⟨1, sender, media, ntp, rtp, pkts, octs, reps, name, srcs, seqs, base, ref, count, arrs, wants⟩ : Pk) := ⟨_, rfl⟩
  obtain ⟨q, hq⟩ : ∃ q, q = w.heap.size := ⟨_, rfl⟩
  rw [← hq] at hs1
  have HBE := Lib.hid hB
  have HLE0 := Lib.hid hlow
  clear hB hlow
  go_enter Try.func18, Try.ntmps18
  go_upto_region 1 with fail
  rw [← hq]
  clear hq
  generalize World.alloc w _ = W at hs1 ⊢
  obtain ⟨hc1, hf1, hl1⟩ := Blk.all (hs1.at 0 rfl)
  have HST := Lib.hid hs1
  clear hs1
  go_upto_region 13 with fail
  clear hc1 hf1 hl1
  have HSS := Lib.hid (fun (J : Img) (w' : World) (_ : I.le J) (hs : St J (bk q 56 #[.int .i64 1, .int .u32 sender, .int .u32 media, .int .u64 ntp, .int .u32 rtp, .int .u32 pkts, .int .u32 octs, .slice rA reps.length rz, .string name, .slice sA srcs.length sz, .slice qA seqs.length qz, .int .u16 base, .int .u32 ref, .int .u8 count, .slice aA arrs.length az, .slice wA wants.length wz] :: M) w') => (show ∀ i, w'.cell? ⟨q, i, none⟩ = (#[.int .i64 1, .int .u32 sender, .int .u32 media, .int .u64 ntp, .int .u32 rtp, .int .u32 pkts, .int .u32 octs, .slice rA reps.length rz, .string name, .slice sA srcs.length sz, .slice qA seqs.length qz, .int .u16 base, .int .u32 ref, .int .u8 count, .slice aA arrs.length az, .slice wA wants.length wz] : Array Value)[i]? from (Blk.all (hs.at 0 rfl)).1))
  have ho1 := HOK.out.ntp
  simp only [] at ho1
  obtain ⟨p1, p2⟩ := ho1
  have hw1 : IntKind.u32.wrap (ntp / 4294967296) = ntp / 4294967296 := wrap_u32 (by omega) (by omega)
  have hw2 : IntKind.u32.wrap ntp = ntp % 4294967296 := by simp only [IntKind.wrap, IntKind.signed, IntKind.bits]; simp
  obtain ⟨rb, hrb⟩ : ∃ rb, rb = reps.flatMap repL := ⟨_, rfl⟩
  have HRB := Lib.hid hrb
  have HLB := Lib.hid (show rb.length ≤ 744 by rw [hrb]; have := fm_len (f := repL) (s := 24) repL_len reps; omega)
  clear hrb
  refine wp_region_held_drew (S := fun w' => ∀ i, w'.cell? ⟨q, i, none⟩ = (#[.int .i64 1, .int .u32 sender, .int .u32 media, .int .u64 ntp, .int .u32 rtp, .int .u32 pkts, .int .u32 octs, .slice rA reps.length rz, .string name, .slice sA srcs.length sz, .slice qA seqs.length qz, .int .u16 base, .int .u32 ref, .int .u8 count, .slice aA arrs.length az, .slice wA wants.length wz] : Array Value)[i]?) (by kernel_rfl) (HSS.out _ _ (.refl _) HST.out.drew) (fun hHeld => ?_)
  refine wpAnyH_take (i := 0) (oi := _) (v := ?_) rfl (by kernel_rfl) (by kernel_rfl) (by kernel_rfl) (fun _ _ _ h => h) (Or.inl ⟨by rfl, ?_⟩) (by assumption) ?_
  rotate_left
  · (intro w hSw; (try dsimp only at hSw); go_simp; try with_reducible rfl)
  try simp only [Act.put, List.getElem_toArray, List.getElem_cons_zero, List.getElem_cons_succ, List.setIfInBounds_toArray, List.set_cons_zero, List.set_cons_succ]
  refine wpAnyH_take (i := 1) (oi := _) (v := ?_) rfl (by kernel_rfl) (by kernel_rfl) (by kernel_rfl) (fun _ _ _ h => h) (Or.inl ⟨by rfl, ?_⟩) (by assumption) ?_
  rotate_left
  · (intro w hSw; (try dsimp only at hSw); go_simp; try with_reducible rfl)
  try simp only [Act.put, List.getElem_toArray, List.getElem_cons_zero, List.getElem_cons_succ, List.setIfInBounds_toArray, List.set_cons_zero, List.set_cons_succ]
  refine wpAnyH_take (i := 3) (oi := _) (v := ?_) rfl (by kernel_rfl) (by kernel_rfl) (by kernel_rfl) (fun _ _ _ h => h) (Or.inl ⟨by rfl, ?_⟩) (by assumption) ?_
  rotate_left
  · (intro w hSw; (try dsimp only at hSw); go_simp; try with_reducible rfl)
  try simp only [Act.put, List.getElem_toArray, List.getElem_cons_zero, List.getElem_cons_succ, List.setIfInBounds_toArray, List.set_cons_zero, List.set_cons_succ]
  refine wpAnyH_take (i := 4) (oi := _) (v := ?_) rfl (by kernel_rfl) (by kernel_rfl) (by kernel_rfl) (fun _ _ _ h => h) (Or.inl ⟨by rfl, ?_⟩) (by assumption) ?_
  rotate_left
  · (intro w hSw; (try dsimp only at hSw); go_simp; try with_reducible rfl)
  try simp only [Act.put, List.getElem_toArray, List.getElem_cons_zero, List.getElem_cons_succ, List.setIfInBounds_toArray, List.set_cons_zero, List.set_cons_succ]
  refine wpAnyH_take (i := 5) (oi := _) (v := ?_) rfl (by kernel_rfl) (by kernel_rfl) (by kernel_rfl) (fun _ _ _ h => h) (Or.inl ⟨by rfl, ?_⟩) (by assumption) ?_
  rotate_left
  · (intro w hSw; (try dsimp only at hSw); go_simp; try with_reducible rfl)
  try simp only [Act.put, List.getElem_toArray, List.getElem_cons_zero, List.getElem_cons_succ, List.setIfInBounds_toArray, List.set_cons_zero, List.set_cons_succ]
  refine wpAnyH_take (i := 6) (oi := _) (v := ?_) rfl (by kernel_rfl) (by kernel_rfl) (by kernel_rfl) (fun _ _ _ h => h) (Or.inl ⟨by rfl, ?_⟩) (by assumption) ?_
  rotate_left
  · (intro w hSw; (try dsimp only at hSw); go_simp; try with_reducible rfl)
  try simp only [Act.put, List.getElem_toArray, List.getElem_cons_zero, List.getElem_cons_succ, List.setIfInBounds_toArray, List.set_cons_zero, List.set_cons_succ]
  refine wpAnyH_take (i := 8) (oi := _) (v := ?_) rfl (by kernel_rfl) (by kernel_rfl) (by kernel_rfl) (fun _ _ _ h => h) (Or.inl ⟨by rfl, ?_⟩) (by assumption) ?_
  rotate_left
  · (intro w hSw; (try dsimp only at hSw); go_simp; try with_reducible rfl)
  try simp only [Act.put, List.getElem_toArray, List.getElem_cons_zero, List.getElem_cons_succ, List.setIfInBounds_toArray, List.set_cons_zero, List.set_cons_succ]
  refine wpAnyH_take (i := 9) (oi := _) (v := ?_) rfl (by kernel_rfl) (by kernel_rfl) (by kernel_rfl) (fun _ _ _ h => h) (Or.inl ⟨by rfl, ?_⟩) (by assumption) ?_
  rotate_left
  · (intro w hSw; (try dsimp only at hSw); go_simp; try with_reducible rfl)
  try simp only [Act.put, List.getElem_toArray, List.getElem_cons_zero, List.getElem_cons_succ, List.setIfInBounds_toArray, List.set_cons_zero, List.set_cons_succ]
  refine wpAnyH_take (i := 10) (oi := _) (v := ?_) rfl (by kernel_rfl) (by kernel_rfl) (by kernel_rfl) (fun _ _ _ h => h) (Or.inl ⟨by rfl, ?_⟩) (by assumption) ?_
  rotate_left
  · (intro w hSw; (try dsimp only at hSw); go_simp; try with_reducible rfl)
  try simp only [Act.put, List.getElem_toArray, List.getElem_cons_zero, List.getElem_cons_succ, List.setIfInBounds_toArray, List.set_cons_zero, List.set_cons_succ]
  refine wpAnyH_take (i := 12) (oi := _) (v := ?_) rfl (by kernel_rfl) (by kernel_rfl) (by kernel_rfl) (fun _ _ _ h => h) (Or.inl ⟨by rfl, ?_⟩) (by assumption) ?_
  rotate_left
  · (intro w hSw; (try dsimp only at hSw); go_simp; try with_reducible rfl)
  try simp only [Act.put, List.getElem_toArray, List.getElem_cons_zero, List.getElem_cons_succ, List.setIfInBounds_toArray, List.set_cons_zero, List.set_cons_succ]
  refine wpAnyH_take (i := 13) (oi := _) (v := ?_) rfl (by kernel_rfl) (by kernel_rfl) (by kernel_rfl) (fun _ _ _ h => h) (Or.inl ⟨by rfl, ?_⟩) (by assumption) ?_
  rotate_left
  · (intro w hSw; (try dsimp only at hSw); go_simp; try with_reducible rfl)
  try simp only [Act.put, List.getElem_toArray, List.getElem_cons_zero, List.getElem_cons_succ, List.setIfInBounds_toArray, List.set_cons_zero, List.set_cons_succ]
  refine wpAnyH_take (i := 15) (oi := _) (v := ?_) rfl (by kernel_rfl) (by kernel_rfl) (by kernel_rfl) (fun _ _ _ h => h) (Or.inl ⟨by rfl, ?_⟩) (by assumption) ?_
  rotate_left
  · (intro w hSw; (try dsimp only at hSw); go_simp; try with_reducible rfl)
  try simp only [Act.put, List.getElem_toArray, List.getElem_cons_zero, List.getElem_cons_succ, List.setIfInBounds_toArray, List.set_cons_zero, List.set_cons_succ]
  refine wpAnyH_take (i := 16) (oi := _) (v := ?_) rfl (by kernel_rfl) (by kernel_rfl) (by kernel_rfl) (fun _ _ _ h => h) (Or.inl ⟨by rfl, ?_⟩) (by assumption) ?_
  rotate_left
  · (intro w hSw; (try dsimp only at hSw); go_simp; try with_reducible rfl)
  try simp only [Act.put, List.getElem_toArray, List.getElem_cons_zero, List.getElem_cons_succ, List.setIfInBounds_toArray, List.set_cons_zero, List.set_cons_succ]
  refine wpAnyH_take (i := 18) (oi := _) (v := ?_) rfl (by kernel_rfl) (by kernel_rfl) (by kernel_rfl) (fun _ _ _ h => h) (Or.inl ⟨by rfl, ?_⟩) (by assumption) ?_
  rotate_left
  · (intro w hSw; (try dsimp only at hSw); go_simp; try with_reducible rfl)
  try simp only [Act.put, List.getElem_toArray, List.getElem_cons_zero, List.getElem_cons_succ, List.setIfInBounds_toArray, List.set_cons_zero, List.set_cons_succ]
  refine wpAnyH_take (i := 19) (oi := _) (v := ?_) rfl (by kernel_rfl) (by kernel_rfl) (by kernel_rfl) (fun _ _ _ h => h) (Or.inl ⟨by rfl, ?_⟩) (by assumption) ?_
  rotate_left
  · (intro w hSw; (try dsimp only at hSw); go_simp; try with_reducible rfl)
  try simp only [Act.put, List.getElem_toArray, List.getElem_cons_zero, List.getElem_cons_succ, List.setIfInBounds_toArray, List.set_cons_zero, List.set_cons_succ]
  refine wpAnyH_take (i := 21) (oi := _) (v := ?_) rfl (by kernel_rfl) (by kernel_rfl) (by kernel_rfl) (fun _ _ _ h => h) (Or.inl ⟨by rfl, ?_⟩) (by assumption) ?_
  rotate_left
  · (intro w hSw; (try dsimp only at hSw); go_simp; try with_reducible rfl)
  try simp only [Act.put, List.getElem_toArray, List.getElem_cons_zero, List.getElem_cons_succ, List.setIfInBounds_toArray, List.set_cons_zero, List.set_cons_succ]
  refine wpAnyH_take (i := 22) (oi := _) (v := ?_) rfl (by kernel_rfl) (by kernel_rfl) (by kernel_rfl) (fun _ _ _ h => h) (Or.inl ⟨by rfl, ?_⟩) (by assumption) ?_
  rotate_left
  · (intro w hSw; (try dsimp only at hSw); go_simp; try with_reducible rfl)
  try simp only [Act.put, List.getElem_toArray, List.getElem_cons_zero, List.getElem_cons_succ, List.setIfInBounds_toArray, List.set_cons_zero, List.set_cons_succ]
  refine anyH_ro (I := I) (M := bk q 56 #[.int .i64 1, .int .u32 sender, .int .u32 media, .int .u64 ntp, .int .u32 rtp, .int .u32 pkts, .int .u32 octs, .slice rA reps.length rz, .string name, .slice sA srcs.length sz, .slice qA seqs.length qz, .int .u16 base, .int .u32 ref, .int .u8 count, .slice aA arrs.length az, .slice wA wants.length wz] :: M) (l := [(2, 49, u32B sender), (7, 54, u32B (ntp / 4294967296)), (11, 58, u32B (ntp % 4294967296)), (14, 61, u32B rtp), (17, 64, u32B pkts), (20, 67, u32B octs), (23, 70, rb)]) 3 (by kernel_rfl) (by simp only [List.map_cons, List.map_nil]; decide) (by simp only [List.map_cons, List.map_nil]; decide) HSS.out HST.out.drew ?_ ?_
  · refine List.forall_mem_cons.2 ⟨?_, List.forall_mem_cons.2 ⟨?_, List.forall_mem_cons.2 ⟨?_, List.forall_mem_cons.2 ⟨?_, List.forall_mem_cons.2 ⟨?_, List.forall_mem_cons.2 ⟨?_, List.forall_mem_cons.2 ⟨?_, fun _ h => by cases h⟩⟩⟩⟩⟩⟩⟩
    · refine CdStep.call (o := _) rfl rfl rfl rfl (fun _ _ => rfl) ?_ (fun J w hle hs => (four_frz J _ w (sender) (HOK.out.sender) hs).mono (fun _ _ h => h))
      intro xf; simp [Act.over, setAll, Act.eval, hw1, hw2]
    · refine CdStep.call (o := _) rfl rfl rfl rfl (fun _ _ => rfl) ?_ (fun J w hle hs => (four_frz J _ w (ntp / 4294967296) (⟨by omega, by omega⟩) hs).mono (fun _ _ h => h))
      intro xf; simp [Act.over, setAll, Act.eval, hw1, hw2]
    · refine CdStep.call (o := _) rfl rfl rfl rfl (fun _ _ => rfl) ?_ (fun J w hle hs => (four_frz J _ w (ntp % 4294967296) (⟨by omega, by omega⟩) hs).mono (fun _ _ h => h))
      intro xf; simp [Act.over, setAll, Act.eval, hw1, hw2]
    · refine CdStep.call (o := _) rfl rfl rfl rfl (fun _ _ => rfl) ?_ (fun J w hle hs => (four_frz J _ w (rtp) (HOK.out.rtp) hs).mono (fun _ _ h => h))
      intro xf; simp [Act.over, setAll, Act.eval, hw1, hw2]
    · refine CdStep.call (o := _) rfl rfl rfl rfl (fun _ _ => rfl) ?_ (fun J w hle hs => (four_frz J _ w (pkts) (HOK.out.pkts) hs).mono (fun _ _ h => h))
      intro xf; simp [Act.over, setAll, Act.eval, hw1, hw2]
    · refine CdStep.call (o := _) rfl rfl rfl rfl (fun _ _ => rfl) ?_ (fun J w hle hs => (four_frz J _ w (octs) (HOK.out.octs) hs).mono (fun _ _ h => h))
      intro xf; simp [Act.over, setAll, Act.eval, hw1, hw2]
    · refine CdStep.call (o := _) rfl rfl rfl rfl (fun _ _ => rfl) ?_ (fun J w hle hs => (frz_cast HRB.out (reportsR J _ w rA rz reps (HCR.out.mono hle) n1 HOK.out.reps hs)).mono (fun _ _ h => h))
      intro xf; simp [Act.over, setAll, Act.eval, hw1, hw2]
  · intro xf J w hle hs hx
    have r0 : RoB (u32B sender) (xf 49) J := hx (2, 49, u32B sender) (by simp)
    have r1 : RoB (u32B (ntp / 4294967296)) (xf 54) J := hx (7, 54, u32B (ntp / 4294967296)) (by simp)
    have r2 : RoB (u32B (ntp % 4294967296)) (xf 58) J := hx (11, 58, u32B (ntp % 4294967296)) (by simp)
    have r3 : RoB (u32B rtp) (xf 61) J := hx (14, 61, u32B rtp) (by simp)
    have r4 : RoB (u32B pkts) (xf 64) J := hx (17, 64, u32B pkts) (by simp)
    have r5 : RoB (u32B octs) (xf 67) J := hx (20, 67, u32B octs) (by simp)
    have r6 : RoB (rb) (xf 70) J := hx (23, 70, rb) (by simp)
    simp only [List.map_cons, List.map_nil, Act.over, setAll, List.foldl_cons, List.foldl_nil, List.setIfInBounds_toArray, List.set_cons_zero, List.set_cons_succ]
    generalize xf 49 = v49 at *
    obtain ⟨A49, c49, rfl, b49⟩ := r0
    generalize xf 54 = v54 at *
    obtain ⟨A54, c54, rfl, b54⟩ := r1
    generalize xf 58 = v58 at *
    obtain ⟨A58, c58, rfl, b58⟩ := r2
    generalize xf 61 = v61 at *
    obtain ⟨A61, c61, rfl, b61⟩ := r3
    generalize xf 64 = v64 at *
    obtain ⟨A64, c64, rfl, b64⟩ := r4
    generalize xf 67 = v67 at *
    obtain ⟨A67, c67, rfl, b67⟩ := r5
    generalize xf 70 = v70 at *
    obtain ⟨A70, c70, rfl, b70⟩ := r6
    clear hx
    refine wpAnyH_ready (rs := [24]) (by kernel_rfl) (by simp) ?_
    refine AllReadyH.cons (o := _) rfl (fun K hK => ?_) AllReadyH.nil
    go_simp
    try clear hHeld
    refine hK.out _ _ (HSS.out J _ hle (hs.grow _)) (fun hHeld => ?_)
    clear hK K
    try simp only [Act.put, List.getElem_toArray, List.getElem_cons_zero, List.getElem_cons_succ, List.setIfInBounds_toArray, List.set_cons_zero, List.set_cons_succ]
    obtain ⟨J2, hle2, hs2, hobj⟩ := (hs.alloc 24 #[.slice A49 (u32B sender).length c49, .slice A54 (u32B (ntp / 4294967296)).length c54, .slice A58 (u32B (ntp % 4294967296)).length c58, .slice A61 (u32B rtp).length c61, .slice A64 (u32B pkts).length c64, .slice A67 (u32B octs).length c67, .slice A70 (rb).length c70]).freezeBlk
    have hcs := Cells.ofBlk hobj
    refine wpAnyH_ready (rs := [25]) (by kernel_rfl) (by simp) ?_
    refine AllReadyH.cons (o := _) rfl (fun K hK => ?_) AllReadyH.nil
    go_simp
    go_at_call 35
    refine (joinR J2 (bk q 56 #[.int .i64 1, .int .u32 sender, .int .u32 media, .int .u64 ntp, .int .u32 rtp, .int .u32 pkts, .int .u32 octs, .slice rA reps.length rz, .string name, .slice sA srcs.length sz, .slice qA seqs.length qz, .int .u16 base, .int .u32 ref, .int .u8 count, .slice aA arrs.length az, .slice wA wants.length wz] :: M) _ (some ⟨w.heap.size, 0, none⟩) 7 [u32B sender, u32B (ntp / 4294967296), u32B (ntp % 4294967296), u32B rtp, u32B pkts, u32B octs, rb] [.slice A49 (u32B sender).length c49, .slice A54 (u32B (ntp / 4294967296)).length c54, .slice A58 (u32B (ntp % 4294967296)).length c58, .slice A61 (u32B rtp).length c61, .slice A64 (u32B pkts).length c64, .slice A67 (u32B octs).length c67, .slice A70 (rb).length c70] hcs ⟨⟨A49, c49, rfl, b49.mono hle2⟩, ⟨A54, c54, rfl, b54.mono hle2⟩, ⟨A58, c58, rfl, b58.mono hle2⟩, ⟨A61, c61, rfl, b61.mono hle2⟩, ⟨A64, c64, rfl, b64.mono hle2⟩, ⟨A67, c67, rfl, b67.mono hle2⟩, ⟨A70, c70, rfl, b70.mono hle2⟩, trivial⟩ (by simp) (by have := HLB.out; simp only [List.flatten_cons, List.flatten_nil, List.length_append, List.length_cons, List.length_nil, u32B_len, u16B_len]; omega) hs2).mono ?_
    rintro e w3 ⟨_, _, _, rfl, _, hs3, rfl, A3, c3, rfl, hc3, rfl⟩
    obtain ⟨fl, hfl⟩ : ∃ z : List UInt8, z = ([u32B sender, u32B (ntp / 4294967296), u32B (ntp % 4294967296), u32B rtp, u32B pkts, u32B octs, rb] : List (List UInt8)).flatten := ⟨_, rfl⟩
    rw [← hfl] at hs3 hc3 ⊢
    have HFLAT := Lib.hid hfl
    clear hfl
    try clear hHeld
    refine hK.out _ _ (HSS.out J2 _ (hle.trans hle2) hs3.drop) (fun hHeld => ?_)
    clear hK K
    try simp only [Act.put, List.getElem_toArray, List.getElem_cons_zero, List.getElem_cons_succ, List.setIfInBounds_toArray, List.set_cons_zero, List.set_cons_succ]
    refine wpAnyH_take (i := 26) (oi := _) (v := ?_) rfl (by kernel_rfl) (by kernel_rfl) (by kernel_rfl) (fun _ _ _ h => h) (Or.inl ⟨by rfl, ?_⟩) (by assumption) ?_
    rotate_left
    · (intro w hSw; (try dsimp only at hSw); go_simp; try with_reducible rfl)
    try simp only [Act.put, List.getElem_toArray, List.getElem_cons_zero, List.getElem_cons_succ, List.setIfInBounds_toArray, List.set_cons_zero, List.set_cons_succ]
    refine wpAnyH_done (by kernel_rfl) ?_ _
    have hbq : fl = B := by rw [HFLAT.out, HBE.out]; exact body1 HGD.out HRB.out
    subst hbq
    have HS := Lib.hid hs3
    have HLE := Lib.hid (hle.trans hle2)
    clear hs hs2 hs3 hHeld hle hle2 hcs hobj HFLAT
    generalize A3 = A4 at *
    go_upto_region 36 with fail
    go_loopw [3] (fun bv wr => ∃ (A : Option Addr) (n c : Nat), bv = .slice A n c ∧ n ≤ 4000 ∧ Hid (∃ (j : Nat) (J : Img), n = fl.length + j ∧ j ≤ (4 - fl.length % 4) % 4 ∧ I.le J ∧ St J (row 5 1 (.slice A n c) n (bvs (fl ++ List.replicate j 0)) :: bk q 56 #[.int .i64 1, .int .u32 sender, .int .u32 media, .int .u64 ntp, .int .u32 rtp, .int .u32 pkts, .int .u32 octs, .slice rA reps.length rz, .string name, .slice sA srcs.length sz, .slice qA seqs.length qz, .int .u16 base, .int .u32 ref, .int .u8 count, .slice aA arrs.length az, .slice wA wants.length wz] :: M) wr)) (fun bv _ => (4 - sliceLen bv % 4) % 4)
    case atStart => exact ⟨_, _, _, rfl, by omega, Lib.hid ⟨0, J2, rfl, Nat.zero_le _, HLE.out, by simpa using HS.out⟩⟩
    case round =>
      obtain ⟨A, n, c, rfl, hn, hh⟩ := hrel
      obtain ⟨j, J, hnj, hj, hle, hs⟩ := hh.out
      clear hh HS HLE
      have hln : (fl ++ List.replicate j 0).length = n := by rw [hnj]; simp
      have HLN := Lib.hid hln
      have HRP := Lib.hid (rep_snoc j)
      have HNJ := Lib.hid hnj
      by_cases hlt : j < (4 - fl.length % 4) % 4
      · have hm : ((n : Int) % 4 != 0) = true := by rw [bne_iff_ne]; omega
        obtain ⟨J3, hle3, hs3, hobj⟩ := (hs.alloc 5 #[.int .u8 0]).freezeBlk
        have HB1 := Lib.hid (show RoB [0] (.slice (some ⟨wr.heap.size, 0, none⟩) 1 1) J3 from ⟨_, 1, rfl, Byts.ofBlk hobj rfl⟩)
        obtain ⟨bl, hbe⟩ : ∃ bl, bl = fl ++ List.replicate j 0 := ⟨_, rfl⟩
        rw [← hbe] at hs3 hln
        rw [← hln] at hs3
        have HBL := Lib.hid hbe
        have HS3 := Lib.hid hs3
        have HLE := Lib.hid (hle.trans hle3)
        have HLT := Lib.hid hlt
        have HLL := Lib.hid hln
        clear hbe hle hle3 hs hs3 hobj hnj hj hln hlt
        go_wp2_with (at_builtin; refine wpList_appB rfl _ _ rfl J3 _ _ _ _ _ (by rw [HLL.out]; rfl) rfl HS3.out HB1.out (by have := HLL.out; simp only [List.length_cons, List.length_nil]; omega) ?_)
        intro v3 w3 hs4
        obtain ⟨A5, c5, rfl⟩ := own_form (show World.ownsRow _ 0 5 1 v3 _ _ from St.at hs4 0 rfl)
        have hl5 : (bl ++ [0]).length = n + 1 := by rw [List.length_append, HLL.out]; rfl
        have hs5 := show St J3 _ w3 from hs4
        rw [hl5] at hs5 ⊢
        have HS5 := Lib.hid hs5
        clear hs4 hs5 HS3 HB1 hl5
        go_wp2
        go_roundw
        case rel =>
          refine ⟨A5, n + 1, c5, rfl, by have := HLT.out; have := HNJ.out; omega, Lib.hid ⟨j + 1, J3, by have := HNJ.out; omega, by have := HLT.out; omega, HLE.out, ?_⟩⟩
          have := HS5.out
          rw [HBL.out, List.append_assoc, ← HRP.out] at this
          exact this
        case measure =>
          have h1 := HNJ.out
          have h2 := HLT.out
          show (4 - (n + 1) % 4) % 4 < (4 - n % 4) % 4
          omega
      · have hm : ((n : Int) % 4 != 0) = false := by rw [bne_eq_false_iff_eq]; omega
        have hjj : j = (4 - fl.length % 4) % 4 := by omega
        rw [hjj, even_rep] at hs hln
        obtain ⟨E, hE⟩ : ∃ E, E = evenL fl := ⟨_, rfl⟩
        rw [← hE] at hs hln
        have HE := Lib.hid hE
        obtain ⟨J3, hle3, hs3, hb3⟩ := hs.freezeRow
        have HS3 := Lib.hid hs3
        have HB3 := Lib.hid (show Byts J3 A E from hb3)
        have HLE := Lib.hid (hle.trans hle3)
        have HLL := Lib.hid hln
        clear hs hs3 hb3 hle hle3 hE hln hnj hj hjj hlt
        have hq1 : (reps.length : Int) ≤ 31 := by omega
        have HV := Lib.hid (show [byteOf (128 + (reps.length : Int)), byteOf 200] ++ u16B ((E.length / 4 : Nat) : Int) ++ E = packB (⟨1, sender, media, ntp, rtp, pkts, octs, reps, name, srcs, seqs, base, ref, count, arrs, wants⟩ : Pk) by
          have e1 : 128 + low = 128 + (reps.length : Int) := by rw [HLE0.out]; rw [low1 HGD.out]
          rw [← e1, HLE0.out, HE.out, HBE.out]
          rfl)
        obtain ⟨J4, hle4, hs4, hobj⟩ := (HS3.out.alloc 5 #[.int .u8 (128 + (reps.length : Int)), .int .u8 200]).freezeBlk
        have HB4 := Lib.hid (show Byts J4 (some ⟨wr.heap.size, 0, none⟩) [byteOf (128 + (reps.length : Int)), byteOf 200] from Byts.ofBlk hobj (lit_two (by omega) (by omega)))
        have HT := Lib.hid (twoR J4 _ _ ((n : Int) / 4) hs4)
        have HLE4 := Lib.hid hle4
        clear hle4 hs4 hobj HS3
        go_wp2_with fail
        go_at_call 39
        refine HT.out.mono ?_
        clear HT
        rintro e w2 ⟨_, _, _, rfl, _, hs1, rfl, A6, c6, rfl, hc6, rfl⟩
        obtain ⟨J5, hle5, hs5, hb5⟩ := hs1.freezeRow
        have hb5 : Byts J5 A6 (u16B ((n : Int) / 4 % 65536)) := hb5
        obtain ⟨J6, hle6, hs6, hobj⟩ := (hs5.alloc 24 #[.slice (some ⟨wr.heap.size, 0, none⟩) 2 2, .slice A6 (u16B ((n : Int) / 4 % 65536)).length c6, .slice A n c]).freezeBlk
        have hcs := Cells.ofBlk hobj
        have HJ := Lib.hid (joinR J6 (bk q 56 #[.int .i64 1, .int .u32 sender, .int .u32 media, .int .u64 ntp, .int .u32 rtp, .int .u32 pkts, .int .u32 octs, .slice rA reps.length rz, .string name, .slice sA srcs.length sz, .slice qA seqs.length qz, .int .u16 base, .int .u32 ref, .int .u8 count, .slice aA arrs.length az, .slice wA wants.length wz] :: M) _ (some ⟨w2.heap.size, 0, none⟩) 3 [[byteOf (128 + (reps.length : Int)), byteOf 200], u16B ((n : Int) / 4 % 65536), E] [.slice (some ⟨wr.heap.size, 0, none⟩) 2 2, .slice A6 (u16B ((n : Int) / 4 % 65536)).length c6, .slice A n c] hcs ⟨⟨_, 2, rfl, (HB4.out.mono hle5).mono hle6⟩, ⟨A6, c6, rfl, hb5.mono hle6⟩, ⟨A, c, by rw [HLL.out], ((HB3.out.mono HLE4.out).mono hle5).mono hle6⟩, trivial⟩ (by simp) (by have := HLL.out; simp only [List.flatten_cons, List.flatten_nil, List.length_append, List.length_cons, List.length_nil, u16B_len]; omega) hs6)
        have HL := Lib.hid (((HLE.out.trans HLE4.out).trans hle5).trans hle6)
        clear hs1 hs5 hs6 hb5 hc6 hobj hcs hle5 hle6 HB3 HB4
        go_wp2_with fail
        go_at_call 35
        refine HJ.out.mono ?_
        clear HJ
        rintro e w4 ⟨_, _, _, rfl, _, hs7, rfl, A7, c7, rfl, hc7, rfl⟩
        have HPE := Lib.hid (show ([[byteOf (128 + (reps.length : Int)), byteOf 200], u16B ((n : Int) / 4 % 65536), E] : List (List UInt8)).flatten = packB (⟨1, sender, media, ntp, rtp, pkts, octs, reps, name, srcs, seqs, base, ref, count, arrs, wants⟩ : Pk) by
          rw [← HV.out, HLL.out]
          have e2 : (n : Int) / 4 % 65536 = ((n / 4 : Nat) : Int) := by omega
          rw [e2]
          simp)
        rw [HPE.out] at hs7 hc7 ⊢
        have HF := Lib.hid (show Bui I M (⟨1, sender, media, ntp, rtp, pkts, octs, reps, name, srcs, seqs, base, ref, count, arrs, wants⟩ : Pk) (.returned _) w4 from Ret.mk HL.out (St.swap1 hs7).drop ⟨A7, c7, rfl, rfl⟩)
        clear hs7 hc7 HPE HV
        generalize packB (⟨1, sender, media, ntp, rtp, pkts, octs, reps, name, srcs, seqs, base, ref, count, arrs, wants⟩ : Pk) = pbs at *
        go_wp2
        go_returns
        exact HF.out
end Go.Proofs.Ytddopbbmgpnjjaa
namespace Go.Proofs.Ytddopbbmgpnjjaa
open Go.RowKit
set_option linter.unusedSimpArgs false

set_option maxRecDepth 100000 in
set_option maxHeartbeats 40000000 in
theorem build2 (I : Img) (M : List Res) (w : World) (sender : Int) (media : Int) (ntp : Int) (rtp : Int) (pkts : Int) (octs : Int) (base : Int) (ref : Int) (count : Int) (name : ByteArray) (reps : List Rp) (srcs seqs arrs : List Int) (wants : List Wn) (rA : Option Addr) (rz : Nat) (sA : Option Addr) (sz : Nat) (qA : Option Addr) (qz : Nat) (aA : Option Addr) (az : Nat) (wA : Option Addr) (wz : Nat) (cr : Cells I rA (flat repC reps)) (cs : Cells I sA (flat u32C srcs)) (cq : Cells I qA (flat u16C seqs)) (ca : Cells I aA (flat intC arrs)) (cw : Cells I wA (flat wnC wants)) (hok : PkOk (⟨2, sender, media, ntp, rtp, pkts, octs, reps, name, srcs, seqs, base, ref, count, arrs, wants⟩ : Pk)) (hg : Good (⟨2, sender, media, ntp, rtp, pkts, octs, reps, name, srcs, seqs, base, ref, count, arrs, wants⟩ : Pk)) (hst : St I M w) :
    Calls Try.prog 18 #[.agg #[.int .i64 2, .int .u32 sender, .int .u32 media, .int .u64 ntp, .int .u32 rtp, .int .u32 pkts, .int .u32 octs, .slice rA reps.length rz, .string name, .slice sA srcs.length sz, .slice qA seqs.length qz, .int .u16 base, .int .u32 ref, .int .u8 count, .slice aA arrs.length az, .slice wA wants.length wz]] w (Bui I M (⟨2, sender, media, ntp, rtp, pkts, octs, reps, name, srcs, seqs, base, ref, count, arrs, wants⟩ : Pk)) := by
  have hs1 := hst.alloc 56 #[.int .i64 2, .int .u32 sender, .int .u32 media, .int .u64 ntp, .int .u32 rtp, .int .u32 pkts, .int .u32 octs, .slice rA reps.length rz, .string name, .slice sA srcs.length sz, .slice qA seqs.length qz, .int .u16 base, .int .u32 ref, .int .u8 count, .slice aA arrs.length az, .slice wA wants.length wz]
  have HOK := Lib.hid hok
  have HGD := Lib.hid hg
  have hbl := body_len hg
  obtain ⟨n1, n2, n3, n4, n5, n6⟩ := good_lens hg
  have HLOW := Lib.hid (lowP_ok hg)
  simp only [] at n1 n2 n3 n4 n5 n6
  have HCR := Lib.hid cr
  have HCS := Lib.hid cs
  have HCW := Lib.hid cw
  have HCQ := Lib.hid cq
  have HCA := Lib.hid ca
  clear cr cs cq ca cw hok hg hst
  obtain ⟨B, hB⟩ : ∃ B, B = bodyL (⟨2, sender, media, ntp, rtp, pkts, octs, reps, name, srcs, seqs, base, ref, count, arrs, wants⟩ : Pk) := ⟨_, rfl⟩
  rw [← hB] at hbl
  obtain ⟨low, hlow⟩ : ∃ low, low = lowP (⟨2, sender, media, ntp, rtp, pkts, octs, reps, name, srcs, seqs, base, ref, count, arrs, wants⟩ : Pk) := ⟨_, rfl⟩
  obtain ⟨q, hq⟩ : ∃ q, q = w.heap.size := ⟨_, rfl⟩
  rw [← hq] at hs1
  have HBE := Lib.hid hB
  have HLE0 := Lib.hid hlow
  clear hB hlow
  go_enter Try.func18, Try.ntmps18
  go_upto_region 1 with fail
  rw [← hq]
  clear hq
  generalize World.alloc w _ = W at hs1 ⊢
  obtain ⟨hc1, hf1, hl1⟩ := Blk.all (hs1.at 0 rfl)
  have HST := Lib.hid hs1
  clear hs1
  go_upto_region 16 with fail
  clear hc1 hf1 hl1
  have HSS := Lib.hid (fun (J : Img) (w' : World) (_ : I.le J) (hs : St J (bk q 56 #[.int .i64 2, .int .u32 sender, .int .u32 media, .int .u64 ntp, .int .u32 rtp, .int .u32 pkts, .int .u32 octs, .slice rA reps.length rz, .string name, .slice sA srcs.length sz, .slice qA seqs.length qz, .int .u16 base, .int .u32 ref, .int .u8 count, .slice aA arrs.length az, .slice wA wants.length wz] :: M) w') => (show ∀ i, w'.cell? ⟨q, i, none⟩ = (#[.int .i64 2, .int .u32 sender, .int .u32 media, .int .u64 ntp, .int .u32 rtp, .int .u32 pkts, .int .u32 octs, .slice rA reps.length rz, .string name, .slice sA srcs.length sz, .slice qA seqs.length qz, .int .u16 base, .int .u32 ref, .int .u8 count, .slice aA arrs.length az, .slice wA wants.length wz] : Array Value)[i]? from (Blk.all (hs.at 0 rfl)).1))
  obtain ⟨rb, hrb⟩ : ∃ rb, rb = reps.flatMap repL := ⟨_, rfl⟩
  have HRB := Lib.hid hrb
  have HLB := Lib.hid (show rb.length ≤ 744 by rw [hrb]; have := fm_len (f := repL) (s := 24) repL_len reps; omega)
  clear hrb
  refine wp_region_held_drew (S := fun w' => ∀ i, w'.cell? ⟨q, i, none⟩ = (#[.int .i64 2, .int .u32 sender, .int .u32 media, .int .u64 ntp, .int .u32 rtp, .int .u32 pkts, .int .u32 octs, .slice rA reps.length rz, .string name, .slice sA srcs.length sz, .slice qA seqs.length qz, .int .u16 base, .int .u32 ref, .int .u8 count, .slice aA arrs.length az, .slice wA wants.length wz] : Array Value)[i]?) (by kernel_rfl) (HSS.out _ _ (.refl _) HST.out.drew) (fun hHeld => ?_)
  refine wpAnyH_take (i := 0) (oi := _) (v := ?_) rfl (by kernel_rfl) (by kernel_rfl) (by kernel_rfl) (fun _ _ _ h => h) (Or.inl ⟨by rfl, ?_⟩) (by assumption) ?_
  rotate_left
  · (intro w hSw; (try dsimp only at hSw); go_simp; try with_reducible rfl)
  try simp only [Act.put, List.getElem_toArray, List.getElem_cons_zero, List.getElem_cons_succ, List.setIfInBounds_toArray, List.set_cons_zero, List.set_cons_succ]
  refine wpAnyH_take (i := 1) (oi := _) (v := ?_) rfl (by kernel_rfl) (by kernel_rfl) (by kernel_rfl) (fun _ _ _ h => h) (Or.inl ⟨by rfl, ?_⟩) (by assumption) ?_
  rotate_left
  · (intro w hSw; (try dsimp only at hSw); go_simp; try with_reducible rfl)
  try simp only [Act.put, List.getElem_toArray, List.getElem_cons_zero, List.getElem_cons_succ, List.setIfInBounds_toArray, List.set_cons_zero, List.set_cons_succ]
  refine wpAnyH_take (i := 3) (oi := _) (v := ?_) rfl (by kernel_rfl) (by kernel_rfl) (by kernel_rfl) (fun _ _ _ h => h) (Or.inl ⟨by rfl, ?_⟩) (by assumption) ?_
  rotate_left
  · (intro w hSw; (try dsimp only at hSw); go_simp; try with_reducible rfl)
  try simp only [Act.put, List.getElem_toArray, List.getElem_cons_zero, List.getElem_cons_succ, List.setIfInBounds_toArray, List.set_cons_zero, List.set_cons_succ]
  refine wpAnyH_take (i := 4) (oi := _) (v := ?_) rfl (by kernel_rfl) (by kernel_rfl) (by kernel_rfl) (fun _ _ _ h => h) (Or.inl ⟨by rfl, ?_⟩) (by assumption) ?_
  rotate_left
  · (intro w hSw; (try dsimp only at hSw); go_simp; try with_reducible rfl)
  try simp only [Act.put, List.getElem_toArray, List.getElem_cons_zero, List.getElem_cons_succ, List.setIfInBounds_toArray, List.set_cons_zero, List.set_cons_succ]
  refine anyH_ro (I := I) (M := bk q 56 #[.int .i64 2, .int .u32 sender, .int .u32 media, .int .u64 ntp, .int .u32 rtp, .int .u32 pkts, .int .u32 octs, .slice rA reps.length rz, .string name, .slice sA srcs.length sz, .slice qA seqs.length qz, .int .u16 base, .int .u32 ref, .int .u8 count, .slice aA arrs.length az, .slice wA wants.length wz] :: M) (l := [(2, 80, u32B sender), (5, 83, rb)]) 3 (by kernel_rfl) (by simp only [List.map_cons, List.map_nil]; decide) (by simp only [List.map_cons, List.map_nil]; decide) HSS.out HST.out.drew ?_ ?_
  · refine List.forall_mem_cons.2 ⟨?_, List.forall_mem_cons.2 ⟨?_, fun _ h => by cases h⟩⟩
    · refine CdStep.call (o := _) rfl rfl rfl rfl (fun _ _ => rfl) ?_ (fun J w hle hs => (four_frz J _ w (sender) (HOK.out.sender) hs).mono (fun _ _ h => h))
      intro xf; simp [Act.over, setAll, Act.eval]
    · refine CdStep.call (o := _) rfl rfl rfl rfl (fun _ _ => rfl) ?_ (fun J w hle hs => (frz_cast HRB.out (reportsR J _ w rA rz reps (HCR.out.mono hle) n1 HOK.out.reps hs)).mono (fun _ _ h => h))
      intro xf; simp [Act.over, setAll, Act.eval]
  · intro xf J w hle hs hx
    have r0 : RoB (u32B sender) (xf 80) J := hx (2, 80, u32B sender) (by simp)
    have r1 : RoB (rb) (xf 83) J := hx (5, 83, rb) (by simp)
    simp only [List.map_cons, List.map_nil, Act.over, setAll, List.foldl_cons, List.foldl_nil, List.setIfInBounds_toArray, List.set_cons_zero, List.set_cons_succ]
    generalize xf 80 = v80 at *
    obtain ⟨A80, c80, rfl, b80⟩ := r0
    generalize xf 83 = v83 at *
    obtain ⟨A83, c83, rfl, b83⟩ := r1
    clear hx
    refine wpAnyH_ready (rs := [6]) (by kernel_rfl) (by simp) ?_
    refine AllReadyH.cons (o := _) rfl (fun K hK => ?_) AllReadyH.nil
    go_simp
    try clear hHeld
    refine hK.out _ _ (HSS.out J _ hle (hs.grow _)) (fun hHeld => ?_)
    clear hK K
    try simp only [Act.put, List.getElem_toArray, List.getElem_cons_zero, List.getElem_cons_succ, List.setIfInBounds_toArray, List.set_cons_zero, List.set_cons_succ]
    obtain ⟨J2, hle2, hs2, hobj⟩ := (hs.alloc 24 #[.slice A80 (u32B sender).length c80, .slice A83 (rb).length c83]).freezeBlk
    have hcs := Cells.ofBlk hobj
    refine wpAnyH_ready (rs := [7]) (by kernel_rfl) (by simp) ?_
    refine AllReadyH.cons (o := _) rfl (fun K hK => ?_) AllReadyH.nil
    go_simp
    go_at_call 35
    refine (joinR J2 (bk q 56 #[.int .i64 2, .int .u32 sender, .int .u32 media, .int .u64 ntp, .int .u32 rtp, .int .u32 pkts, .int .u32 octs, .slice rA reps.length rz, .string name, .slice sA srcs.length sz, .slice qA seqs.length qz, .int .u16 base, .int .u32 ref, .int .u8 count, .slice aA arrs.length az, .slice wA wants.length wz] :: M) _ (some ⟨w.heap.size, 0, none⟩) 2 [u32B sender, rb] [.slice A80 (u32B sender).length c80, .slice A83 (rb).length c83] hcs ⟨⟨A80, c80, rfl, b80.mono hle2⟩, ⟨A83, c83, rfl, b83.mono hle2⟩, trivial⟩ (by simp) (by have := HLB.out; simp only [List.flatten_cons, List.flatten_nil, List.length_append, List.length_cons, List.length_nil, u32B_len, u16B_len]; omega) hs2).mono ?_
    rintro e w3 ⟨_, _, _, rfl, _, hs3, rfl, A3, c3, rfl, hc3, rfl⟩
    obtain ⟨fl, hfl⟩ : ∃ z : List UInt8, z = ([u32B sender, rb] : List (List UInt8)).flatten := ⟨_, rfl⟩
    rw [← hfl] at hs3 hc3 ⊢
    have HFLAT := Lib.hid hfl
    clear hfl
    try clear hHeld
    refine hK.out _ _ (HSS.out J2 _ (hle.trans hle2) hs3.drop) (fun hHeld => ?_)
    clear hK K
    try simp only [Act.put, List.getElem_toArray, List.getElem_cons_zero, List.getElem_cons_succ, List.setIfInBounds_toArray, List.set_cons_zero, List.set_cons_succ]
    refine wpAnyH_take (i := 8) (oi := _) (v := ?_) rfl (by kernel_rfl) (by kernel_rfl) (by kernel_rfl) (fun _ _ _ h => h) (Or.inl ⟨by rfl, ?_⟩) (by assumption) ?_
    rotate_left
    · (intro w hSw; (try dsimp only at hSw); go_simp; try with_reducible rfl)
    try simp only [Act.put, List.getElem_toArray, List.getElem_cons_zero, List.getElem_cons_succ, List.setIfInBounds_toArray, List.set_cons_zero, List.set_cons_succ]
    refine wpAnyH_done (by kernel_rfl) ?_ _
    have hbq : fl = B := by rw [HFLAT.out, HBE.out]; exact body2 HGD.out HRB.out
    subst hbq
    have HS := Lib.hid hs3
    have HLE := Lib.hid (hle.trans hle2)
    clear hs hs2 hs3 hHeld hle hle2 hcs hobj HFLAT
    generalize A3 = A4 at *
    go_upto_region 36 with fail
    go_loopw [3] (fun bv wr => ∃ (A : Option Addr) (n c : Nat), bv = .slice A n c ∧ n ≤ 4000 ∧ Hid (∃ (j : Nat) (J : Img), n = fl.length + j ∧ j ≤ (4 - fl.length % 4) % 4 ∧ I.le J ∧ St J (row 5 1 (.slice A n c) n (bvs (fl ++ List.replicate j 0)) :: bk q 56 #[.int .i64 2, .int .u32 sender, .int .u32 media, .int .u64 ntp, .int .u32 rtp, .int .u32 pkts, .int .u32 octs, .slice rA reps.length rz, .string name, .slice sA srcs.length sz, .slice qA seqs.length qz, .int .u16 base, .int .u32 ref, .int .u8 count, .slice aA arrs.length az, .slice wA wants.length wz] :: M) wr)) (fun bv _ => (4 - sliceLen bv % 4) % 4)
    case atStart => exact ⟨_, _, _, rfl, by omega, Lib.hid ⟨0, J2, rfl, Nat.zero_le _, HLE.out, by simpa using HS.out⟩⟩
    case round =>
      obtain ⟨A, n, c, rfl, hn, hh⟩ := hrel
      obtain ⟨j, J, hnj, hj, hle, hs⟩ := hh.out
      clear hh HS HLE
      have hln : (fl ++ List.replicate j 0).length = n := by rw [hnj]; simp
      have HLN := Lib.hid hln
      have HRP := Lib.hid (rep_snoc j)
      have HNJ := Lib.hid hnj
      by_cases hlt : j < (4 - fl.length % 4) % 4
      · have hm : ((n : Int) % 4 != 0) = true := by rw [bne_iff_ne]; omega
        obtain ⟨J3, hle3, hs3, hobj⟩ := (hs.alloc 5 #[.int .u8 0]).freezeBlk
        have HB1 := Lib.hid (show RoB [0] (.slice (some ⟨wr.heap.size, 0, none⟩) 1 1) J3 from ⟨_, 1, rfl, Byts.ofBlk hobj rfl⟩)
        obtain ⟨bl, hbe⟩ : ∃ bl, bl = fl ++ List.replicate j 0 := ⟨_, rfl⟩
        rw [← hbe] at hs3 hln
        rw [← hln] at hs3
        have HBL := Lib.hid hbe
        have HS3 := Lib.hid hs3
        have HLE := Lib.hid (hle.trans hle3)
        have HLT := Lib.hid hlt
        have HLL := Lib.hid hln
        clear hbe hle hle3 hs hs3 hobj hnj hj hln hlt
        go_wp2_with (at_builtin; refine wpList_appB rfl _ _ rfl J3 _ _ _ _ _ (by rw [HLL.out]; rfl) rfl HS3.out HB1.out (by have := HLL.out; simp only [List.length_cons, List.length_nil]; omega) ?_)
        intro v3 w3 hs4
        obtain ⟨A5, c5, rfl⟩ := own_form (show World.ownsRow _ 0 5 1 v3 _ _ from St.at hs4 0 rfl)
        have hl5 : (bl ++ [0]).length = n + 1 := by rw [List.length_append, HLL.out]; rfl
        have hs5 := show St J3 _ w3 from hs4
        rw [hl5] at hs5 ⊢
        have HS5 := Lib.hid hs5
        clear hs4 hs5 HS3 HB1 hl5
        go_wp2
        go_roundw
        case rel =>
          refine ⟨A5, n + 1, c5, rfl, by have := HLT.out; have := HNJ.out; omega, Lib.hid ⟨j + 1, J3, by have := HNJ.out; omega, by have := HLT.out; omega, HLE.out, ?_⟩⟩
          have := HS5.out
          rw [HBL.out, List.append_assoc, ← HRP.out] at this
          exact this
        case measure =>
          have h1 := HNJ.out
          have h2 := HLT.out
          show (4 - (n + 1) % 4) % 4 < (4 - n % 4) % 4
          omega
      · have hm : ((n : Int) % 4 != 0) = false := by rw [bne_eq_false_iff_eq]; omega
        have hjj : j = (4 - fl.length % 4) % 4 := by omega
        rw [hjj, even_rep] at hs hln
        obtain ⟨E, hE⟩ : ∃ E, E = evenL fl := ⟨_, rfl⟩
        rw [← hE] at hs hln
        have HE := Lib.hid hE
        obtain ⟨J3, hle3, hs3, hb3⟩ := hs.freezeRow
        have HS3 := Lib.hid hs3
        have HB3 := Lib.hid (show Byts J3 A E from hb3)
        have HLE := Lib.hid (hle.trans hle3)
        have HLL := Lib.hid hln
        clear hs hs3 hb3 hle hle3 hE hln hnj hj hjj hlt
        have hq1 : (reps.length : Int) ≤ 31 := by omega
        have HV := Lib.hid (show [byteOf (128 + (reps.length : Int)), byteOf 201] ++ u16B ((E.length / 4 : Nat) : Int) ++ E = packB (⟨2, sender, media, ntp, rtp, pkts, octs, reps, name, srcs, seqs, base, ref, count, arrs, wants⟩ : Pk) by
          have e1 : 128 + low = 128 + (reps.length : Int) := by rw [HLE0.out]; rw [low2 HGD.out]
          rw [← e1, HLE0.out, HE.out, HBE.out]
          rfl)
        obtain ⟨J4, hle4, hs4, hobj⟩ := (HS3.out.alloc 5 #[.int .u8 (128 + (reps.length : Int)), .int .u8 201]).freezeBlk
        have HB4 := Lib.hid (show Byts J4 (some ⟨wr.heap.size, 0, none⟩) [byteOf (128 + (reps.length : Int)), byteOf 201] from Byts.ofBlk hobj (lit_two (by omega) (by omega)))
        have HT := Lib.hid (twoR J4 _ _ ((n : Int) / 4) hs4)
        have HLE4 := Lib.hid hle4
        clear hle4 hs4 hobj HS3
        go_wp2_with fail
        go_at_call 39
        refine HT.out.mono ?_
        clear HT
        rintro e w2 ⟨_, _, _, rfl, _, hs1, rfl, A6, c6, rfl, hc6, rfl⟩
        obtain ⟨J5, hle5, hs5, hb5⟩ := hs1.freezeRow
        have hb5 : Byts J5 A6 (u16B ((n : Int) / 4 % 65536)) := hb5
        obtain ⟨J6, hle6, hs6, hobj⟩ := (hs5.alloc 24 #[.slice (some ⟨wr.heap.size, 0, none⟩) 2 2, .slice A6 (u16B ((n : Int) / 4 % 65536)).length c6, .slice A n c]).freezeBlk
        have hcs := Cells.ofBlk hobj
        have HJ := Lib.hid (joinR J6 (bk q 56 #[.int .i64 2, .int .u32 sender, .int .u32 media, .int .u64 ntp, .int .u32 rtp, .int .u32 pkts, .int .u32 octs, .slice rA reps.length rz, .string name, .slice sA srcs.length sz, .slice qA seqs.length qz, .int .u16 base, .int .u32 ref, .int .u8 count, .slice aA arrs.length az, .slice wA wants.length wz] :: M) _ (some ⟨w2.heap.size, 0, none⟩) 3 [[byteOf (128 + (reps.length : Int)), byteOf 201], u16B ((n : Int) / 4 % 65536), E] [.slice (some ⟨wr.heap.size, 0, none⟩) 2 2, .slice A6 (u16B ((n : Int) / 4 % 65536)).length c6, .slice A n c] hcs ⟨⟨_, 2, rfl, (HB4.out.mono hle5).mono hle6⟩, ⟨A6, c6, rfl, hb5.mono hle6⟩, ⟨A, c, by rw [HLL.out], ((HB3.out.mono HLE4.out).mono hle5).mono hle6⟩, trivial⟩ (by simp) (by have := HLL.out; simp only [List.flatten_cons, List.flatten_nil, List.length_append, List.length_cons, List.length_nil, u16B_len]; omega) hs6)
        have HL := Lib.hid (((HLE.out.trans HLE4.out).trans hle5).trans hle6)
        clear hs1 hs5 hs6 hb5 hc6 hobj hcs hle5 hle6 HB3 HB4
        go_wp2_with fail
        go_at_call 35
        refine HJ.out.mono ?_
        clear HJ
        rintro e w4 ⟨_, _, _, rfl, _, hs7, rfl, A7, c7, rfl, hc7, rfl⟩
        have HPE := Lib.hid (show ([[byteOf (128 + (reps.length : Int)), byteOf 201], u16B ((n : Int) / 4 % 65536), E] : List (List UInt8)).flatten = packB (⟨2, sender, media, ntp, rtp, pkts, octs, reps, name, srcs, seqs, base, ref, count, arrs, wants⟩ : Pk) by
          rw [← HV.out, HLL.out]
          have e2 : (n : Int) / 4 % 65536 = ((n / 4 : Nat) : Int) := by omega
          rw [e2]
          simp)
        rw [HPE.out] at hs7 hc7 ⊢
        have HF := Lib.hid (show Bui I M (⟨2, sender, media, ntp, rtp, pkts, octs, reps, name, srcs, seqs, base, ref, count, arrs, wants⟩ : Pk) (.returned _) w4 from Ret.mk HL.out (St.swap1 hs7).drop ⟨A7, c7, rfl, rfl⟩)
        clear hs7 hc7 HPE HV
        generalize packB (⟨2, sender, media, ntp, rtp, pkts, octs, reps, name, srcs, seqs, base, ref, count, arrs, wants⟩ : Pk) = pbs at *
        go_wp2
        go_returns
        exact HF.out
end Go.Proofs.Ytddopbbmgpnjjaa
namespace Go.Proofs.Ytddopbbmgpnjjaa
open Go.RowKit
set_option linter.unusedSimpArgs false

set_option maxRecDepth 100000 in
set_option maxHeartbeats 40000000 in
theorem build3 (I : Img) (M : List Res) (w : World) (sender : Int) (media : Int) (ntp : Int) (rtp : Int) (pkts : Int) (octs : Int) (base : Int) (ref : Int) (count : Int) (name : ByteArray) (reps : List Rp) (srcs seqs arrs : List Int) (wants : List Wn) (rA : Option Addr) (rz : Nat) (sA : Option Addr) (sz : Nat) (qA : Option Addr) (qz : Nat) (aA : Option Addr) (az : Nat) (wA : Option Addr) (wz : Nat) (cr : Cells I rA (flat repC reps)) (cs : Cells I sA (flat u32C srcs)) (cq : Cells I qA (flat u16C seqs)) (ca : Cells I aA (flat intC arrs)) (cw : Cells I wA (flat wnC wants)) (hok : PkOk (⟨3, sender, media, ntp, rtp, pkts, octs, reps, name, srcs, seqs, base, ref, count, arrs, wants⟩ : Pk)) (hg : Good (⟨3, sender, media, ntp, rtp, pkts, octs, reps, name, srcs, seqs, base, ref, count, arrs, wants⟩ : Pk)) (hst : St I M w) :
    Calls Try.prog 18 #[.agg #[.int .i64 3, .int .u32 sender, .int .u32 media, .int .u64 ntp, .int .u32 rtp, .int .u32 pkts, .int .u32 octs, .slice rA reps.length rz, .string name, .slice sA srcs.length sz, .slice qA seqs.length qz, .int .u16 base, .int .u32 ref, .int .u8 count, .slice aA arrs.length az, .slice wA wants.length wz]] w (Bui I M (⟨3, sender, media, ntp, rtp, pkts, octs, reps, name, srcs, seqs, base, ref, count, arrs, wants⟩ : Pk)) := by
  have hs1 := hst.alloc 56 #[.int .i64 3, .int .u32 sender, .int .u32 media, .int .u64 ntp, .int .u32 rtp, .int .u32 pkts, .int .u32 octs, .slice rA reps.length rz, .string name, .slice sA srcs.length sz, .slice qA seqs.length qz, .int .u16 base, .int .u32 ref, .int .u8 count, .slice aA arrs.length az, .slice wA wants.length wz]
  have HOK := Lib.hid hok
  have HGD := Lib.hid hg
  have hbl := body_len hg
  obtain ⟨n1, n2, n3, n4, n5, n6⟩ := good_lens hg
  have HLOW := Lib.hid (lowP_ok hg)
  simp only [] at n1 n2 n3 n4 n5 n6
  have HCR := Lib.hid cr
  have HCS := Lib.hid cs
  have HCW := Lib.hid cw
  have HCQ := Lib.hid cq
  have HCA := Lib.hid ca
  clear cr cs cq ca cw hok hg hst
  obtain ⟨B, hB⟩ : ∃ B, B = bodyL (⟨3, sender, media, ntp, rtp, pkts, octs, reps, name, srcs, seqs, base, ref, count, arrs, wants⟩ : Pk) := ⟨_, rfl⟩
  rw [← hB] at hbl
  obtain ⟨low, hlow⟩ : ∃ low, low = lowP (⟨3, sender, media, ntp, rtp, pkts, octs, reps, name, srcs, seqs, base, ref, count, arrs, wants⟩ : Pk) := ⟨_, rfl⟩
  obtain ⟨q, hq⟩ : ∃ q, q = w.heap.size := ⟨_, rfl⟩
  rw [← hq] at hs1
  have HBE := Lib.hid hB
  have HLE0 := Lib.hid hlow
  clear hB hlow
  go_enter Try.func18, Try.ntmps18
  go_upto_region 1 with fail
  rw [← hq]
  clear hq
  generalize World.alloc w _ = W at hs1 ⊢
  obtain ⟨hc1, hf1, hl1⟩ := Blk.all (hs1.at 0 rfl)
  have HST := Lib.hid hs1
  clear hs1
  go_upto_region 19 with fail
  clear hc1 hf1 hl1
  have HSS := Lib.hid (fun (J : Img) (w' : World) (_ : I.le J) (hs : St J (bk q 56 #[.int .i64 3, .int .u32 sender, .int .u32 media, .int .u64 ntp, .int .u32 rtp, .int .u32 pkts, .int .u32 octs, .slice rA reps.length rz, .string name, .slice sA srcs.length sz, .slice qA seqs.length qz, .int .u16 base, .int .u32 ref, .int .u8 count, .slice aA arrs.length az, .slice wA wants.length wz] :: M) w') => (show ∀ i, w'.cell? ⟨q, i, none⟩ = (#[.int .i64 3, .int .u32 sender, .int .u32 media, .int .u64 ntp, .int .u32 rtp, .int .u32 pkts, .int .u32 octs, .slice rA reps.length rz, .string name, .slice sA srcs.length sz, .slice qA seqs.length qz, .int .u16 base, .int .u32 ref, .int .u8 count, .slice aA arrs.length az, .slice wA wants.length wz] : Array Value)[i]? from (Blk.all (hs.at 0 rfl)).1))
  have hn6 : (name.size : Int) ≤ 64 := by omega
  have hw1 : IntKind.u8.wrap name.size = name.size := wrap_u8 (by omega) (by omega)
  have HLB := Lib.hid (show (ls name).length ≤ 64 by rw [ls_len]; exact n6)
  refine wp_region_held_drew (S := fun w' => ∀ i, w'.cell? ⟨q, i, none⟩ = (#[.int .i64 3, .int .u32 sender, .int .u32 media, .int .u64 ntp, .int .u32 rtp, .int .u32 pkts, .int .u32 octs, .slice rA reps.length rz, .string name, .slice sA srcs.length sz, .slice qA seqs.length qz, .int .u16 base, .int .u32 ref, .int .u8 count, .slice aA arrs.length az, .slice wA wants.length wz] : Array Value)[i]?) (by kernel_rfl) (HSS.out _ _ (.refl _) HST.out.drew) (fun hHeld => ?_)
  refine wpAnyH_take (i := 0) (oi := _) (v := ?_) rfl (by kernel_rfl) (by kernel_rfl) (by kernel_rfl) (fun _ _ _ h => h) (Or.inl ⟨by rfl, ?_⟩) (by assumption) ?_
  rotate_left
  · (intro w hSw; (try dsimp only at hSw); go_simp; try with_reducible rfl)
  try simp only [Act.put, List.getElem_toArray, List.getElem_cons_zero, List.getElem_cons_succ, List.setIfInBounds_toArray, List.set_cons_zero, List.set_cons_succ]
  refine wpAnyH_take (i := 1) (oi := _) (v := ?_) rfl (by kernel_rfl) (by kernel_rfl) (by kernel_rfl) (fun _ _ _ h => h) (Or.inl ⟨by rfl, ?_⟩) (by assumption) ?_
  rotate_left
  · (intro w hSw; (try dsimp only at hSw); go_simp; try with_reducible rfl)
  try simp only [Act.put, List.getElem_toArray, List.getElem_cons_zero, List.getElem_cons_succ, List.setIfInBounds_toArray, List.set_cons_zero, List.set_cons_succ]
  refine wpAnyH_take (i := 3) (oi := _) (v := ?_) rfl (by kernel_rfl) (by kernel_rfl) (by kernel_rfl) (fun _ _ _ h => h) (Or.inl ⟨by rfl, ?_⟩) (by assumption) ?_
  rotate_left
  · (intro w hSw; (try dsimp only at hSw); go_simp; try with_reducible rfl)
  try simp only [Act.put, List.getElem_toArray, List.getElem_cons_zero, List.getElem_cons_succ, List.setIfInBounds_toArray, List.set_cons_zero, List.set_cons_succ]
  refine wpAnyH_take (i := 4) (oi := _) (v := ?_) rfl (by kernel_rfl) (by kernel_rfl) (by kernel_rfl) (fun _ _ _ h => h) (Or.inl ⟨by rfl, ?_⟩) (by assumption) ?_
  rotate_left
  · (intro w hSw; (try dsimp only at hSw); go_simp; try with_reducible rfl)
  try simp only [Act.put, List.getElem_toArray, List.getElem_cons_zero, List.getElem_cons_succ, List.setIfInBounds_toArray, List.set_cons_zero, List.set_cons_succ]
  refine wpAnyH_take (i := 5) (oi := _) (v := ?_) rfl (by kernel_rfl) (by kernel_rfl) (by kernel_rfl) (fun _ _ _ h => h) (Or.inl ⟨by rfl, ?_⟩) (by assumption) ?_
  rotate_left
  · (intro w hSw; (try dsimp only at hSw); go_simp; try with_reducible rfl)
  try simp only [Act.put, List.getElem_toArray, List.getElem_cons_zero, List.getElem_cons_succ, List.setIfInBounds_toArray, List.set_cons_zero, List.set_cons_succ]
  refine wpAnyH_take (i := 6) (oi := _) (v := ?_) rfl (by kernel_rfl) (by kernel_rfl) (by kernel_rfl) (fun _ _ _ h => h) (Or.inl ⟨by rfl, ?_⟩) (by assumption) ?_
  rotate_left
  · (intro w hSw; (try dsimp only at hSw); go_simp; try with_reducible rfl)
  try simp only [Act.put, List.getElem_toArray, List.getElem_cons_zero, List.getElem_cons_succ, List.setIfInBounds_toArray, List.set_cons_zero, List.set_cons_succ]
  refine wpAnyH_take (i := 8) (oi := _) (v := ?_) rfl (by kernel_rfl) (by kernel_rfl) (by kernel_rfl) (fun _ _ _ h => h) (Or.inl ⟨by rfl, ?_⟩) (by assumption) ?_
  rotate_left
  · (intro w hSw; (try dsimp only at hSw); go_simp; try with_reducible rfl)
  try simp only [Act.put, List.getElem_toArray, List.getElem_cons_zero, List.getElem_cons_succ, List.setIfInBounds_toArray, List.set_cons_zero, List.set_cons_succ]
  refine wpAnyH_take (i := 9) (oi := _) (v := ?_) rfl (by kernel_rfl) (by kernel_rfl) (by kernel_rfl) (fun _ _ _ h => h) (Or.inl ⟨by rfl, ?_⟩) (by assumption) ?_
  rotate_left
  · (intro w hSw; (try dsimp only at hSw); go_simp; try with_reducible rfl)
  try simp only [Act.put, List.getElem_toArray, List.getElem_cons_zero, List.getElem_cons_succ, List.setIfInBounds_toArray, List.set_cons_zero, List.set_cons_succ]
  refine anyH_ro (I := I) (M := bk q 56 #[.int .i64 3, .int .u32 sender, .int .u32 media, .int .u64 ntp, .int .u32 rtp, .int .u32 pkts, .int .u32 octs, .slice rA reps.length rz, .string name, .slice sA srcs.length sz, .slice qA seqs.length qz, .int .u16 base, .int .u32 ref, .int .u8 count, .slice aA arrs.length az, .slice wA wants.length wz] :: M) (l := [(2, 90, u32B sender), (7, 95, [byteOf 1, byteOf name.size]), (10, 98, ls name), (11, 99, [byteOf 0])]) 3 (by kernel_rfl) (by simp only [List.map_cons, List.map_nil]; decide) (by simp only [List.map_cons, List.map_nil]; decide) HSS.out HST.out.drew ?_ ?_
  · refine List.forall_mem_cons.2 ⟨?_, List.forall_mem_cons.2 ⟨?_, List.forall_mem_cons.2 ⟨?_, List.forall_mem_cons.2 ⟨?_, fun _ h => by cases h⟩⟩⟩⟩
    · refine CdStep.call (o := _) rfl rfl rfl rfl (fun _ _ => rfl) ?_ (fun J w hle hs => (four_frz J _ w (sender) (HOK.out.sender) hs).mono (fun _ _ h => h))
      intro xf; simp [Act.over, setAll, Act.eval, hw1]
    · refine CdStep.lit (o := _) rfl rfl rfl rfl (fun xf J w hle hs => ?_)
      obtain ⟨J9, hle9, hs9, hobj⟩ := (hs.alloc 5 #[.int .u8 1, .int .u8 name.size]).freezeBlk
      refine ⟨.slice (some ⟨w.heap.size, 0, none⟩) 2 2, J9, w.alloc (.cells #[.int .u8 1, .int .u8 name.size] 5), ?_, hle9, hs9, ⟨_, 2, rfl, Byts.ofBlk hobj (lit_two (by omega) (by omega))⟩⟩
      simp only [Act.over, setAll, List.map_cons, List.map_nil, List.foldl_cons, List.foldl_nil, List.setIfInBounds_toArray, List.set_cons_zero, List.set_cons_succ]
      kernel_rfl
    · refine CdStep.conv (o := _) rfl rfl rfl rfl (fun _ => rfl) (fun J w hle hs => ?_)
      obtain ⟨J9, hle9, hs9, hb9⟩ := hs.bytesOf name (grownCap w name.size 0 5) ((bytesRow name (grownCap w name.size 0 5)).size, (bytesRow name (grownCap w name.size 0 5)).size + 1)
      have hconv := run_bytes_of_string (P := Try.prog) w 9 24 5 name Try.underlying9 Try.underlying24 Try.underlying5
      exact ⟨_, J9, _, hconv, hle9, hs9, ⟨_, _, by rw [ls_len], hb9⟩⟩
    · refine CdStep.lit (o := _) rfl rfl rfl rfl (fun xf J w hle hs => ?_)
      obtain ⟨J9, hle9, hs9, hobj⟩ := (hs.alloc 5 #[.int .u8 0]).freezeBlk
      refine ⟨.slice (some ⟨w.heap.size, 0, none⟩) 1 1, J9, w.alloc (.cells #[.int .u8 0] 5), ?_, hle9, hs9, ⟨_, 1, rfl, Byts.ofBlk hobj rfl⟩⟩
      simp only [Act.over, setAll, List.map_cons, List.map_nil, List.foldl_cons, List.foldl_nil, List.setIfInBounds_toArray, List.set_cons_zero, List.set_cons_succ]
      kernel_rfl
  · intro xf J w hle hs hx
    have r0 : RoB (u32B sender) (xf 90) J := hx (2, 90, u32B sender) (by simp)
    have r1 : RoB ([byteOf 1, byteOf name.size]) (xf 95) J := hx (7, 95, [byteOf 1, byteOf name.size]) (by simp)
    have r2 : RoB (ls name) (xf 98) J := hx (10, 98, ls name) (by simp)
    have r3 : RoB ([byteOf 0]) (xf 99) J := hx (11, 99, [byteOf 0]) (by simp)
    simp only [List.map_cons, List.map_nil, Act.over, setAll, List.foldl_cons, List.foldl_nil, List.setIfInBounds_toArray, List.set_cons_zero, List.set_cons_succ]
    generalize xf 90 = v90 at *
    obtain ⟨A90, c90, rfl, b90⟩ := r0
    generalize xf 95 = v95 at *
    obtain ⟨A95, c95, rfl, b95⟩ := r1
    generalize xf 98 = v98 at *
    obtain ⟨A98, c98, rfl, b98⟩ := r2
    generalize xf 99 = v99 at *
    obtain ⟨A99, c99, rfl, b99⟩ := r3
    clear hx
    refine wpAnyH_ready (rs := [12]) (by kernel_rfl) (by simp) ?_
    refine AllReadyH.cons (o := _) rfl (fun K hK => ?_) AllReadyH.nil
    go_simp
    try clear hHeld
    refine hK.out _ _ (HSS.out J _ hle (hs.grow _)) (fun hHeld => ?_)
    clear hK K
    try simp only [Act.put, List.getElem_toArray, List.getElem_cons_zero, List.getElem_cons_succ, List.setIfInBounds_toArray, List.set_cons_zero, List.set_cons_succ]
    obtain ⟨J2, hle2, hs2, hobj⟩ := (hs.alloc 24 #[.slice A90 (u32B sender).length c90, .slice A95 ([byteOf 1, byteOf name.size]).length c95, .slice A98 (ls name).length c98, .slice A99 ([byteOf 0]).length c99]).freezeBlk
    have hcs := Cells.ofBlk hobj
    refine wpAnyH_ready (rs := [13]) (by kernel_rfl) (by simp) ?_
    refine AllReadyH.cons (o := _) rfl (fun K hK => ?_) AllReadyH.nil
    go_simp
    go_at_call 35
    refine (joinR J2 (bk q 56 #[.int .i64 3, .int .u32 sender, .int .u32 media, .int .u64 ntp, .int .u32 rtp, .int .u32 pkts, .int .u32 octs, .slice rA reps.length rz, .string name, .slice sA srcs.length sz, .slice qA seqs.length qz, .int .u16 base, .int .u32 ref, .int .u8 count, .slice aA arrs.length az, .slice wA wants.length wz] :: M) _ (some ⟨w.heap.size, 0, none⟩) 4 [u32B sender, [byteOf 1, byteOf name.size], ls name, [byteOf 0]] [.slice A90 (u32B sender).length c90, .slice A95 ([byteOf 1, byteOf name.size]).length c95, .slice A98 (ls name).length c98, .slice A99 ([byteOf 0]).length c99] hcs ⟨⟨A90, c90, rfl, b90.mono hle2⟩, ⟨A95, c95, rfl, b95.mono hle2⟩, ⟨A98, c98, rfl, b98.mono hle2⟩, ⟨A99, c99, rfl, b99.mono hle2⟩, trivial⟩ (by simp) (by have := HLB.out; simp only [List.flatten_cons, List.flatten_nil, List.length_append, List.length_cons, List.length_nil, u32B_len, u16B_len]; omega) hs2).mono ?_
    rintro e w3 ⟨_, _, _, rfl, _, hs3, rfl, A3, c3, rfl, hc3, rfl⟩
    obtain ⟨fl, hfl⟩ : ∃ z : List UInt8, z = ([u32B sender, [byteOf 1, byteOf name.size], ls name, [byteOf 0]] : List (List UInt8)).flatten := ⟨_, rfl⟩
    rw [← hfl] at hs3 hc3 ⊢
    have HFLAT := Lib.hid hfl
    clear hfl
    try clear hHeld
    refine hK.out _ _ (HSS.out J2 _ (hle.trans hle2) hs3.drop) (fun hHeld => ?_)
    clear hK K
    try simp only [Act.put, List.getElem_toArray, List.getElem_cons_zero, List.getElem_cons_succ, List.setIfInBounds_toArray, List.set_cons_zero, List.set_cons_succ]
    refine wpAnyH_take (i := 14) (oi := _) (v := ?_) rfl (by kernel_rfl) (by kernel_rfl) (by kernel_rfl) (fun _ _ _ h => h) (Or.inl ⟨by rfl, ?_⟩) (by assumption) ?_
    rotate_left
    · (intro w hSw; (try dsimp only at hSw); go_simp; try with_reducible rfl)
    try simp only [Act.put, List.getElem_toArray, List.getElem_cons_zero, List.getElem_cons_succ, List.setIfInBounds_toArray, List.set_cons_zero, List.set_cons_succ]
    refine wpAnyH_done (by kernel_rfl) ?_ _
    have hbq : fl = B := by rw [HFLAT.out, HBE.out]; exact body3 HGD.out
    subst hbq
    have HS := Lib.hid hs3
    have HLE := Lib.hid (hle.trans hle2)
    clear hs hs2 hs3 hHeld hle hle2 hcs hobj HFLAT
    generalize A3 = A4 at *
    go_upto_region 36 with fail
    go_loopw [3] (fun bv wr => ∃ (A : Option Addr) (n c : Nat), bv = .slice A n c ∧ n ≤ 4000 ∧ Hid (∃ (j : Nat) (J : Img), n = fl.length + j ∧ j ≤ (4 - fl.length % 4) % 4 ∧ I.le J ∧ St J (row 5 1 (.slice A n c) n (bvs (fl ++ List.replicate j 0)) :: bk q 56 #[.int .i64 3, .int .u32 sender, .int .u32 media, .int .u64 ntp, .int .u32 rtp, .int .u32 pkts, .int .u32 octs, .slice rA reps.length rz, .string name, .slice sA srcs.length sz, .slice qA seqs.length qz, .int .u16 base, .int .u32 ref, .int .u8 count, .slice aA arrs.length az, .slice wA wants.length wz] :: M) wr)) (fun bv _ => (4 - sliceLen bv % 4) % 4)
    case atStart => exact ⟨_, _, _, rfl, by omega, Lib.hid ⟨0, J2, rfl, Nat.zero_le _, HLE.out, by simpa using HS.out⟩⟩
    case round =>
      obtain ⟨A, n, c, rfl, hn, hh⟩ := hrel
      obtain ⟨j, J, hnj, hj, hle, hs⟩ := hh.out
      clear hh HS HLE
      have hln : (fl ++ List.replicate j 0).length = n := by rw [hnj]; simp
      have HLN := Lib.hid hln
      have HRP := Lib.hid (rep_snoc j)
      have HNJ := Lib.hid hnj
      by_cases hlt : j < (4 - fl.length % 4) % 4
      · have hm : ((n : Int) % 4 != 0) = true := by rw [bne_iff_ne]; omega
        obtain ⟨J3, hle3, hs3, hobj⟩ := (hs.alloc 5 #[.int .u8 0]).freezeBlk
        have HB1 := Lib.hid (show RoB [0] (.slice (some ⟨wr.heap.size, 0, none⟩) 1 1) J3 from ⟨_, 1, rfl, Byts.ofBlk hobj rfl⟩)
        obtain ⟨bl, hbe⟩ : ∃ bl, bl = fl ++ List.replicate j 0 := ⟨_, rfl⟩
        rw [← hbe] at hs3 hln
        rw [← hln] at hs3
        have HBL := Lib.hid hbe
        have HS3 := Lib.hid hs3
        have HLE := Lib.hid (hle.trans hle3)
        have HLT := Lib.hid hlt
        have HLL := Lib.hid hln
        clear hbe hle hle3 hs hs3 hobj hnj hj hln hlt
        go_wp2_with (at_builtin; refine wpList_appB rfl _ _ rfl J3 _ _ _ _ _ (by rw [HLL.out]; rfl) rfl HS3.out HB1.out (by have := HLL.out; simp only [List.length_cons, List.length_nil]; omega) ?_)
        intro v3 w3 hs4
        obtain ⟨A5, c5, rfl⟩ := own_form (show World.ownsRow _ 0 5 1 v3 _ _ from St.at hs4 0 rfl)
        have hl5 : (bl ++ [0]).length = n + 1 := by rw [List.length_append, HLL.out]; rfl
        have hs5 := show St J3 _ w3 from hs4
        rw [hl5] at hs5 ⊢
        have HS5 := Lib.hid hs5
        clear hs4 hs5 HS3 HB1 hl5
        go_wp2
        go_roundw
        case rel =>
          refine ⟨A5, n + 1, c5, rfl, by have := HLT.out; have := HNJ.out; omega, Lib.hid ⟨j + 1, J3, by have := HNJ.out; omega, by have := HLT.out; omega, HLE.out, ?_⟩⟩
          have := HS5.out
          rw [HBL.out, List.append_assoc, ← HRP.out] at this
          exact this
        case measure =>
          have h1 := HNJ.out
          have h2 := HLT.out
          show (4 - (n + 1) % 4) % 4 < (4 - n % 4) % 4
          omega
      · have hm : ((n : Int) % 4 != 0) = false := by rw [bne_eq_false_iff_eq]; omega
        have hjj : j = (4 - fl.length % 4) % 4 := by omega
        rw [hjj, even_rep] at hs hln
        obtain ⟨E, hE⟩ : ∃ E, E = evenL fl := ⟨_, rfl⟩
        rw [← hE] at hs hln
        have HE := Lib.hid hE
        obtain ⟨J3, hle3, hs3, hb3⟩ := hs.freezeRow
        have HS3 := Lib.hid hs3
        have HB3 := Lib.hid (show Byts J3 A E from hb3)
        have HLE := Lib.hid (hle.trans hle3)
        have HLL := Lib.hid hln
        clear hs hs3 hb3 hle hle3 hE hln hnj hj hjj hlt
        have HV := Lib.hid (show [byteOf (129), byteOf 202] ++ u16B ((E.length / 4 : Nat) : Int) ++ E = packB (⟨3, sender, media, ntp, rtp, pkts, octs, reps, name, srcs, seqs, base, ref, count, arrs, wants⟩ : Pk) by
          have e1 : 128 + low = 129 := by rw [HLE0.out]; rfl
          rw [← e1, HLE0.out, HE.out, HBE.out]
          rfl)
        obtain ⟨J4, hle4, hs4, hobj⟩ := (HS3.out.alloc 5 #[.int .u8 (129), .int .u8 202]).freezeBlk
        have HB4 := Lib.hid (show Byts J4 (some ⟨wr.heap.size, 0, none⟩) [byteOf (129), byteOf 202] from Byts.ofBlk hobj (lit_two (by omega) (by omega)))
        have HT := Lib.hid (twoR J4 _ _ ((n : Int) / 4) hs4)
        have HLE4 := Lib.hid hle4
        clear hle4 hs4 hobj HS3
        go_wp2_with fail
        go_at_call 39
        refine HT.out.mono ?_
        clear HT
        rintro e w2 ⟨_, _, _, rfl, _, hs1, rfl, A6, c6, rfl, hc6, rfl⟩
        obtain ⟨J5, hle5, hs5, hb5⟩ := hs1.freezeRow
        have hb5 : Byts J5 A6 (u16B ((n : Int) / 4 % 65536)) := hb5
        obtain ⟨J6, hle6, hs6, hobj⟩ := (hs5.alloc 24 #[.slice (some ⟨wr.heap.size, 0, none⟩) 2 2, .slice A6 (u16B ((n : Int) / 4 % 65536)).length c6, .slice A n c]).freezeBlk
        have hcs := Cells.ofBlk hobj
        have HJ := Lib.hid (joinR J6 (bk q 56 #[.int .i64 3, .int .u32 sender, .int .u32 media, .int .u64 ntp, .int .u32 rtp, .int .u32 pkts, .int .u32 octs, .slice rA reps.length rz, .string name, .slice sA srcs.length sz, .slice qA seqs.length qz, .int .u16 base, .int .u32 ref, .int .u8 count, .slice aA arrs.length az, .slice wA wants.length wz] :: M) _ (some ⟨w2.heap.size, 0, none⟩) 3 [[byteOf (129), byteOf 202], u16B ((n : Int) / 4 % 65536), E] [.slice (some ⟨wr.heap.size, 0, none⟩) 2 2, .slice A6 (u16B ((n : Int) / 4 % 65536)).length c6, .slice A n c] hcs ⟨⟨_, 2, rfl, (HB4.out.mono hle5).mono hle6⟩, ⟨A6, c6, rfl, hb5.mono hle6⟩, ⟨A, c, by rw [HLL.out], ((HB3.out.mono HLE4.out).mono hle5).mono hle6⟩, trivial⟩ (by simp) (by have := HLL.out; simp only [List.flatten_cons, List.flatten_nil, List.length_append, List.length_cons, List.length_nil, u16B_len]; omega) hs6)
        have HL := Lib.hid (((HLE.out.trans HLE4.out).trans hle5).trans hle6)
        clear hs1 hs5 hs6 hb5 hc6 hobj hcs hle5 hle6 HB3 HB4
        go_wp2_with fail
        go_at_call 35
        refine HJ.out.mono ?_
        clear HJ
        rintro e w4 ⟨_, _, _, rfl, _, hs7, rfl, A7, c7, rfl, hc7, rfl⟩
        have HPE := Lib.hid (show ([[byteOf (129), byteOf 202], u16B ((n : Int) / 4 % 65536), E] : List (List UInt8)).flatten = packB (⟨3, sender, media, ntp, rtp, pkts, octs, reps, name, srcs, seqs, base, ref, count, arrs, wants⟩ : Pk) by
          rw [← HV.out, HLL.out]
          have e2 : (n : Int) / 4 % 65536 = ((n / 4 : Nat) : Int) := by omega
          rw [e2]
          simp)
        rw [HPE.out] at hs7 hc7 ⊢
        have HF := Lib.hid (show Bui I M (⟨3, sender, media, ntp, rtp, pkts, octs, reps, name, srcs, seqs, base, ref, count, arrs, wants⟩ : Pk) (.returned _) w4 from Ret.mk HL.out (St.swap1 hs7).drop ⟨A7, c7, rfl, rfl⟩)
        clear hs7 hc7 HPE HV
        generalize packB (⟨3, sender, media, ntp, rtp, pkts, octs, reps, name, srcs, seqs, base, ref, count, arrs, wants⟩ : Pk) = pbs at *
        go_wp2
        go_returns
        exact HF.out
end Go.Proofs.Ytddopbbmgpnjjaa
namespace Go.Proofs.Ytddopbbmgpnjjaa
open Go.RowKit
set_option linter.unusedSimpArgs false

set_option maxRecDepth 100000 in
set_option maxHeartbeats 40000000 in
theorem build4 (I : Img) (M : List Res) (w : World) (sender : Int) (media : Int) (ntp : Int) (rtp : Int) (pkts : Int) (octs : Int) (base : Int) (ref : Int) (count : Int) (name : ByteArray) (reps : List Rp) (srcs seqs arrs : List Int) (wants : List Wn) (rA : Option Addr) (rz : Nat) (sA : Option Addr) (sz : Nat) (qA : Option Addr) (qz : Nat) (aA : Option Addr) (az : Nat) (wA : Option Addr) (wz : Nat) (cr : Cells I rA (flat repC reps)) (cs : Cells I sA (flat u32C srcs)) (cq : Cells I qA (flat u16C seqs)) (ca : Cells I aA (flat intC arrs)) (cw : Cells I wA (flat wnC wants)) (hok : PkOk (⟨4, sender, media, ntp, rtp, pkts, octs, reps, name, srcs, seqs, base, ref, count, arrs, wants⟩ : Pk)) (hg : Good (⟨4, sender, media, ntp, rtp, pkts, octs, reps, name, srcs, seqs, base, ref, count, arrs, wants⟩ : Pk)) (hst : St I M w) :
    Calls Try.prog 18 #[.agg #[.int .i64 4, .int .u32 sender, .int .u32 media, .int .u64 ntp, .int .u32 rtp, .int .u32 pkts, .int .u32 octs, .slice rA reps.length rz, .string name, .slice sA srcs.length sz, .slice qA seqs.length qz, .int .u16 base, .int .u32 ref, .int .u8 count, .slice aA arrs.length az, .slice wA wants.length wz]] w (Bui I M (⟨4, sender, media, ntp, rtp, pkts, octs, reps, name, srcs, seqs, base, ref, count, arrs, wants⟩ : Pk)) := by
  have hs1 := hst.alloc 56 #[.int .i64 4, .int .u32 sender, .int .u32 media, .int .u64 ntp, .int .u32 rtp, .int .u32 pkts, .int .u32 octs, .slice rA reps.length rz, .string name, .slice sA srcs.length sz, .slice qA seqs.length qz, .int .u16 base, .int .u32 ref, .int .u8 count, .slice aA arrs.length az, .slice wA wants.length wz]
  have HOK := Lib.hid hok
  have HGD := Lib.hid hg
  have hbl := body_len hg
  obtain ⟨n1, n2, n3, n4, n5, n6⟩ := good_lens hg
  have HLOW := Lib.hid (lowP_ok hg)
  simp only [] at n1 n2 n3 n4 n5 n6
  have HCR := Lib.hid cr
  have HCS := Lib.hid cs
  have HCW := Lib.hid cw
  have HCQ := Lib.hid cq
  have HCA := Lib.hid ca
  clear cr cs cq ca cw hok hg hst
  obtain ⟨B, hB⟩ : ∃ B, B = bodyL (⟨4, sender, media, ntp, rtp, pkts, octs, reps, name, srcs, seqs, base, ref, count, arrs, wants⟩ : Pk) := ⟨_, rfl⟩
  rw [← hB] at hbl
  obtain ⟨low, hlow⟩ : ∃ low, low = lowP (⟨4, sender, media, ntp, rtp, pkts, octs, reps, name, srcs, seqs, base, ref, count, arrs, wants⟩ : Pk) := ⟨_, rfl⟩
  obtain ⟨q, hq⟩ : ∃ q, q = w.heap.size := ⟨_, rfl⟩
  rw [← hq] at hs1
  have HBE := Lib.hid hB
  have HLE0 := Lib.hid hlow
  clear hB hlow
  go_enter Try.func18, Try.ntmps18
  go_upto_region 1 with fail
  rw [← hq]
  clear hq
  generalize World.alloc w _ = W at hs1 ⊢
  obtain ⟨hc1, hf1, hl1⟩ := Blk.all (hs1.at 0 rfl)
  have HST := Lib.hid hs1
  clear hs1
  obtain ⟨hcq, hfq, hlq⟩ := Blk.all (HST.out.at 0 rfl)
  go_upto_region 23 with fail
  clear hcq hfq hlq hc1 hf1 hl1
  have HS := Lib.hid (HST.out.nil (e := 5) (size := 1))
  go_loopw [3, 110] (fun bv iv wr => ∃ (A : Option Addr) (n c i : Nat), bv = .slice A n c ∧ iv = .int .i64 i ∧ i ≤ srcs.length ∧ n = 4 * i ∧ Hid (∃ (J : Img), I.le J ∧ St J (row 5 1 (.slice A n c) n (bvs ((srcs.take i).flatMap u32B)) :: bk q 56 #[.int .i64 4, .int .u32 sender, .int .u32 media, .int .u64 ntp, .int .u32 rtp, .int .u32 pkts, .int .u32 octs, .slice rA reps.length rz, .string name, .slice sA srcs.length sz, .slice qA seqs.length qz, .int .u16 base, .int .u32 ref, .int .u8 count, .slice aA arrs.length az, .slice wA wants.length wz] :: M) wr)) (fun _ iv _ => srcs.length - (intOf iv).toNat)
  case atStart => exact ⟨none, 0, 0, 0, rfl, rfl, by omega, rfl, Lib.hid ⟨I, .refl I, HS.out⟩⟩
  case round =>
    obtain ⟨A, n, c, i, rfl, rfl, hi, hn, hh⟩ := hrel
    obtain ⟨J, hle, hs⟩ := hh.out
    clear hh HS
    by_cases hlt : i < srcs.length
    · obtain ⟨g, o, rfl, hcell⟩ := flat_get (s := 1) (fun _ => rfl) (HCS.out.mono hle) (by omega) (by decide)
      have y0 : wr.cell? ⟨g, o + i, none⟩ = some (.int .u32 srcs[i]) := by
        have := hcell _ _ hs i hlt 0 (by decide)
        simpa using this
      have hm := HOK.out.srcs _ (List.getElem_mem hlt)
      have hsn := fm_snoc u32B srcs i hlt
      obtain ⟨hcq, hfq, hlq⟩ := Blk.all (hs.at 1 rfl)
      generalize srcs[i] = x at y0 hm hsn
      obtain ⟨bl, hbe⟩ : ∃ bl, bl = (srcs.take i).flatMap u32B := ⟨_, rfl⟩
      have hbl2 : bl.length = n := by rw [hbe, fm_len (s := 4) (fun _ => rfl), List.length_take]; omega
      rw [← hbe] at hs hsn
      rw [← hbl2] at hs
      have HSN := Lib.hid hsn
      have HS := Lib.hid hs
      have HLE := Lib.hid hle
      have HLL := Lib.hid hbl2
      have HN := Lib.hid hn
      have HM := Lib.hid hm
      clear hbe hle hs hsn hcell hbl2 hn hm
      go_wp2_with fail
      go_at_call 36
      refine (fourR J _ _ x HM.out HS.out).mono ?_
      clear HS hcq hfq hlq y0
      rintro e w2 ⟨_, _, _, rfl, _, hs1, rfl, A1, c1, rfl, hc1, rfl⟩
      obtain ⟨J1, hle1, hs2, hb1⟩ := hs1.freezeRow
      have HS2 := Lib.hid hs2
      have HB := Lib.hid (show RoB (u32B x) (.slice A1 (u32B x).length c1) J1 from ⟨A1, c1, rfl, hb1⟩)
      have HLE2 := Lib.hid (HLE.out.trans hle1)
      clear hs1 hs2 hb1 hle1 hc1
      go_wp2_with (at_builtin; refine wpList_appB rfl _ _ rfl J1 _ _ _ _ _ (by rw [HLL.out]; rfl) rfl HS2.out HB.out (by have := HLL.out; have := HN.out; rw [u32B_len]; omega) ?_)
      intro v3 w3 hs4
      obtain ⟨A5, c5, rfl⟩ := own_form (show World.ownsRow _ 0 5 1 v3 _ _ from St.at hs4 0 rfl)
      have hl5 : (bl ++ u32B x).length = n + 4 := by rw [List.length_append, HLL.out, u32B_len]
      have hs5 := show St J1 _ w3 from hs4
      rw [hl5] at hs5 ⊢
      rw [← HSN.out] at hs5
      have HS5 := Lib.hid hs5
      clear hs4 hs5 HS2 HB hl5
      go_wp2
      go_roundw
      case rel => exact ⟨A5, n + 4, c5, i + 1, rfl, by go_num, by omega, by have := HN.out; omega, Lib.hid ⟨J1, HLE2.out, HS5.out⟩⟩
      case measure => simp [intOf]; omega
    · have hin : i = srcs.length := by omega
      rw [List.take_of_length_le (by omega)] at hs
      subst hin
      obtain ⟨fl, hfl⟩ : ∃ fl, fl = srcs.flatMap u32B := ⟨_, rfl⟩
      have hbq : fl = B := by rw [hfl, HBE.out]; exact body4 HGD.out
      have hn5 : fl.length = n := by rw [hfl, fm_len (s := 4) (fun _ => rfl)]; omega
      rw [← hfl] at hs
      subst hbq
      rw [← hn5] at hs ⊢
      have HS := Lib.hid hs
      have HLE := Lib.hid hle
      have HFI := Lib.hid hn5
      clear hs hle hfl hn5 hn
      generalize J = J2 at *
      go_upto_region 36 with fail
      go_loopw [3] (fun bv wr => ∃ (A : Option Addr) (n c : Nat), bv = .slice A n c ∧ n ≤ 4000 ∧ Hid (∃ (j : Nat) (J : Img), n = fl.length + j ∧ j ≤ (4 - fl.length % 4) % 4 ∧ I.le J ∧ St J (row 5 1 (.slice A n c) n (bvs (fl ++ List.replicate j 0)) :: bk q 56 #[.int .i64 4, .int .u32 sender, .int .u32 media, .int .u64 ntp, .int .u32 rtp, .int .u32 pkts, .int .u32 octs, .slice rA reps.length rz, .string name, .slice sA srcs.length sz, .slice qA seqs.length qz, .int .u16 base, .int .u32 ref, .int .u8 count, .slice aA arrs.length az, .slice wA wants.length wz] :: M) wr)) (fun bv _ => (4 - sliceLen bv % 4) % 4)
      case atStart => exact ⟨_, _, _, rfl, by omega, Lib.hid ⟨0, J2, rfl, Nat.zero_le _, HLE.out, by simpa using HS.out⟩⟩
      case round =>
        obtain ⟨A, n, c, rfl, hn, hh⟩ := hrel
        obtain ⟨j, J, hnj, hj, hle, hs⟩ := hh.out
        clear hh HS HLE
        have hln : (fl ++ List.replicate j 0).length = n := by rw [hnj]; simp
        have HLN := Lib.hid hln
        have HRP := Lib.hid (rep_snoc j)
        have HNJ := Lib.hid hnj
        by_cases hlt : j < (4 - fl.length % 4) % 4
        · have hm : ((n : Int) % 4 != 0) = true := by rw [bne_iff_ne]; omega
          obtain ⟨J3, hle3, hs3, hobj⟩ := (hs.alloc 5 #[.int .u8 0]).freezeBlk
          have HB1 := Lib.hid (show RoB [0] (.slice (some ⟨wr.heap.size, 0, none⟩) 1 1) J3 from ⟨_, 1, rfl, Byts.ofBlk hobj rfl⟩)
          obtain ⟨bl, hbe⟩ : ∃ bl, bl = fl ++ List.replicate j 0 := ⟨_, rfl⟩
          rw [← hbe] at hs3 hln
          rw [← hln] at hs3
          have HBL := Lib.hid hbe
          have HS3 := Lib.hid hs3
          have HLE := Lib.hid (hle.trans hle3)
          have HLT := Lib.hid hlt
          have HLL := Lib.hid hln
          clear hbe hle hle3 hs hs3 hobj hnj hj hln hlt
          go_wp2_with (at_builtin; refine wpList_appB rfl _ _ rfl J3 _ _ _ _ _ (by rw [HLL.out]; rfl) rfl HS3.out HB1.out (by have := HLL.out; simp only [List.length_cons, List.length_nil]; omega) ?_)
          intro v3 w3 hs4
          obtain ⟨A5, c5, rfl⟩ := own_form (show World.ownsRow _ 0 5 1 v3 _ _ from St.at hs4 0 rfl)
          have hl5 : (bl ++ [0]).length = n + 1 := by rw [List.length_append, HLL.out]; rfl
          have hs5 := show St J3 _ w3 from hs4
          rw [hl5] at hs5 ⊢
          have HS5 := Lib.hid hs5
          clear hs4 hs5 HS3 HB1 hl5
          go_wp2
          go_roundw
          case rel =>
            refine ⟨A5, n + 1, c5, rfl, by have := HLT.out; have := HNJ.out; omega, Lib.hid ⟨j + 1, J3, by have := HNJ.out; omega, by have := HLT.out; omega, HLE.out, ?_⟩⟩
            have := HS5.out
            rw [HBL.out, List.append_assoc, ← HRP.out] at this
            exact this
          case measure =>
            have h1 := HNJ.out
            have h2 := HLT.out
            show (4 - (n + 1) % 4) % 4 < (4 - n % 4) % 4
            omega
        · have hm : ((n : Int) % 4 != 0) = false := by rw [bne_eq_false_iff_eq]; omega
          have hjj : j = (4 - fl.length % 4) % 4 := by omega
          rw [hjj, even_rep] at hs hln
          obtain ⟨E, hE⟩ : ∃ E, E = evenL fl := ⟨_, rfl⟩
          rw [← hE] at hs hln
          have HE := Lib.hid hE
          obtain ⟨J3, hle3, hs3, hb3⟩ := hs.freezeRow
          have HS3 := Lib.hid hs3
          have HB3 := Lib.hid (show Byts J3 A E from hb3)
          have HLE := Lib.hid (hle.trans hle3)
          have HLL := Lib.hid hln
          clear hs hs3 hb3 hle hle3 hE hln hnj hj hjj hlt
          have hq1 : (srcs.length : Int) ≤ 31 := by omega
          have HV := Lib.hid (show [byteOf (128 + (srcs.length : Int)), byteOf 203] ++ u16B ((E.length / 4 : Nat) : Int) ++ E = packB (⟨4, sender, media, ntp, rtp, pkts, octs, reps, name, srcs, seqs, base, ref, count, arrs, wants⟩ : Pk) by
            have e1 : 128 + low = 128 + (srcs.length : Int) := by rw [HLE0.out]; rw [low4 HGD.out]
            rw [← e1, HLE0.out, HE.out, HBE.out]
            rfl)
          obtain ⟨J4, hle4, hs4, hobj⟩ := (HS3.out.alloc 5 #[.int .u8 (128 + (srcs.length : Int)), .int .u8 203]).freezeBlk
          have HB4 := Lib.hid (show Byts J4 (some ⟨wr.heap.size, 0, none⟩) [byteOf (128 + (srcs.length : Int)), byteOf 203] from Byts.ofBlk hobj (lit_two (by omega) (by omega)))
          have HT := Lib.hid (twoR J4 _ _ ((n : Int) / 4) hs4)
          have HLE4 := Lib.hid hle4
          clear hle4 hs4 hobj HS3
          go_wp2_with fail
          go_at_call 39
          refine HT.out.mono ?_
          clear HT
          rintro e w2 ⟨_, _, _, rfl, _, hs1, rfl, A6, c6, rfl, hc6, rfl⟩
          obtain ⟨J5, hle5, hs5, hb5⟩ := hs1.freezeRow
          have hb5 : Byts J5 A6 (u16B ((n : Int) / 4 % 65536)) := hb5
          obtain ⟨J6, hle6, hs6, hobj⟩ := (hs5.alloc 24 #[.slice (some ⟨wr.heap.size, 0, none⟩) 2 2, .slice A6 (u16B ((n : Int) / 4 % 65536)).length c6, .slice A n c]).freezeBlk
          have hcs := Cells.ofBlk hobj
          have HJ := Lib.hid (joinR J6 (bk q 56 #[.int .i64 4, .int .u32 sender, .int .u32 media, .int .u64 ntp, .int .u32 rtp, .int .u32 pkts, .int .u32 octs, .slice rA reps.length rz, .string name, .slice sA srcs.length sz, .slice qA seqs.length qz, .int .u16 base, .int .u32 ref, .int .u8 count, .slice aA arrs.length az, .slice wA wants.length wz] :: M) _ (some ⟨w2.heap.size, 0, none⟩) 3 [[byteOf (128 + (srcs.length : Int)), byteOf 203], u16B ((n : Int) / 4 % 65536), E] [.slice (some ⟨wr.heap.size, 0, none⟩) 2 2, .slice A6 (u16B ((n : Int) / 4 % 65536)).length c6, .slice A n c] hcs ⟨⟨_, 2, rfl, (HB4.out.mono hle5).mono hle6⟩, ⟨A6, c6, rfl, hb5.mono hle6⟩, ⟨A, c, by rw [HLL.out], ((HB3.out.mono HLE4.out).mono hle5).mono hle6⟩, trivial⟩ (by simp) (by have := HLL.out; simp only [List.flatten_cons, List.flatten_nil, List.length_append, List.length_cons, List.length_nil, u16B_len]; omega) hs6)
          have HL := Lib.hid (((HLE.out.trans HLE4.out).trans hle5).trans hle6)
          clear hs1 hs5 hs6 hb5 hc6 hobj hcs hle5 hle6 HB3 HB4
          go_wp2_with fail
          go_at_call 35
          refine HJ.out.mono ?_
          clear HJ
          rintro e w4 ⟨_, _, _, rfl, _, hs7, rfl, A7, c7, rfl, hc7, rfl⟩
          have HPE := Lib.hid (show ([[byteOf (128 + (srcs.length : Int)), byteOf 203], u16B ((n : Int) / 4 % 65536), E] : List (List UInt8)).flatten = packB (⟨4, sender, media, ntp, rtp, pkts, octs, reps, name, srcs, seqs, base, ref, count, arrs, wants⟩ : Pk) by
            rw [← HV.out, HLL.out]
            have e2 : (n : Int) / 4 % 65536 = ((n / 4 : Nat) : Int) := by omega
            rw [e2]
            simp)
          rw [HPE.out] at hs7 hc7 ⊢
          have HF := Lib.hid (show Bui I M (⟨4, sender, media, ntp, rtp, pkts, octs, reps, name, srcs, seqs, base, ref, count, arrs, wants⟩ : Pk) (.returned _) w4 from Ret.mk HL.out (St.swap1 hs7).drop ⟨A7, c7, rfl, rfl⟩)
          clear hs7 hc7 HPE HV
          generalize packB (⟨4, sender, media, ntp, rtp, pkts, octs, reps, name, srcs, seqs, base, ref, count, arrs, wants⟩ : Pk) = pbs at *
          go_wp2
          go_returns
          exact HF.out
end Go.Proofs.Ytddopbbmgpnjjaa
namespace Go.Proofs.Ytddopbbmgpnjjaa
open Go.RowKit
set_option linter.unusedSimpArgs false

set_option maxRecDepth 100000 in
set_option maxHeartbeats 40000000 in
theorem build5 (I : Img) (M : List Res) (w : World) (sender : Int) (media : Int) (ntp : Int) (rtp : Int) (pkts : Int) (octs : Int) (base : Int) (ref : Int) (count : Int) (name : ByteArray) (reps : List Rp) (srcs seqs arrs : List Int) (wants : List Wn) (rA : Option Addr) (rz : Nat) (sA : Option Addr) (sz : Nat) (qA : Option Addr) (qz : Nat) (aA : Option Addr) (az : Nat) (wA : Option Addr) (wz : Nat) (cr : Cells I rA (flat repC reps)) (cs : Cells I sA (flat u32C srcs)) (cq : Cells I qA (flat u16C seqs)) (ca : Cells I aA (flat intC arrs)) (cw : Cells I wA (flat wnC wants)) (hok : PkOk (⟨5, sender, media, ntp, rtp, pkts, octs, reps, name, srcs, seqs, base, ref, count, arrs, wants⟩ : Pk)) (hg : Good (⟨5, sender, media, ntp, rtp, pkts, octs, reps, name, srcs, seqs, base, ref, count, arrs, wants⟩ : Pk)) (hst : St I M w) :
    Calls Try.prog 18 #[.agg #[.int .i64 5, .int .u32 sender, .int .u32 media, .int .u64 ntp, .int .u32 rtp, .int .u32 pkts, .int .u32 octs, .slice rA reps.length rz, .string name, .slice sA srcs.length sz, .slice qA seqs.length qz, .int .u16 base, .int .u32 ref, .int .u8 count, .slice aA arrs.length az, .slice wA wants.length wz]] w (Bui I M (⟨5, sender, media, ntp, rtp, pkts, octs, reps, name, srcs, seqs, base, ref, count, arrs, wants⟩ : Pk)) := by
  have hs1 := hst.alloc 56 #[.int .i64 5, .int .u32 sender, .int .u32 media, .int .u64 ntp, .int .u32 rtp, .int .u32 pkts, .int .u32 octs, .slice rA reps.length rz, .string name, .slice sA srcs.length sz, .slice qA seqs.length qz, .int .u16 base, .int .u32 ref, .int .u8 count, .slice aA arrs.length az, .slice wA wants.length wz]
  have HOK := Lib.hid hok
  have HGD := Lib.hid hg
  have hbl := body_len hg
  obtain ⟨n1, n2, n3, n4, n5, n6⟩ := good_lens hg
  have HLOW := Lib.hid (lowP_ok hg)
  simp only [] at n1 n2 n3 n4 n5 n6
  have HCR := Lib.hid cr
  have HCS := Lib.hid cs
  have HCW := Lib.hid cw
  have HCQ := Lib.hid cq
  have HCA := Lib.hid ca
  clear cr cs cq ca cw hok hg hst
  obtain ⟨B, hB⟩ : ∃ B, B = bodyL (⟨5, sender, media, ntp, rtp, pkts, octs, reps, name, srcs, seqs, base, ref, count, arrs, wants⟩ : Pk) := ⟨_, rfl⟩
  rw [← hB] at hbl
  obtain ⟨low, hlow⟩ : ∃ low, low = lowP (⟨5, sender, media, ntp, rtp, pkts, octs, reps, name, srcs, seqs, base, ref, count, arrs, wants⟩ : Pk) := ⟨_, rfl⟩
  obtain ⟨q, hq⟩ : ∃ q, q = w.heap.size := ⟨_, rfl⟩
  rw [← hq] at hs1
  have HBE := Lib.hid hB
  have HLE0 := Lib.hid hlow
  clear hB hlow
  go_enter Try.func18, Try.ntmps18
  go_upto_region 1 with fail
  rw [← hq]
  clear hq
  generalize World.alloc w _ = W at hs1 ⊢
  obtain ⟨hc1, hf1, hl1⟩ := Blk.all (hs1.at 0 rfl)
  have HST := Lib.hid hs1
  clear hs1
  go_upto_region 29 with fail
  clear hc1 hf1 hl1
  have HSS := Lib.hid (fun (J : Img) (w' : World) (_ : I.le J) (hs : St J (bk q 56 #[.int .i64 5, .int .u32 sender, .int .u32 media, .int .u64 ntp, .int .u32 rtp, .int .u32 pkts, .int .u32 octs, .slice rA reps.length rz, .string name, .slice sA srcs.length sz, .slice qA seqs.length qz, .int .u16 base, .int .u32 ref, .int .u8 count, .slice aA arrs.length az, .slice wA wants.length wz] :: M) w') => (show ∀ i, w'.cell? ⟨q, i, none⟩ = (#[.int .i64 5, .int .u32 sender, .int .u32 media, .int .u64 ntp, .int .u32 rtp, .int .u32 pkts, .int .u32 octs, .slice rA reps.length rz, .string name, .slice sA srcs.length sz, .slice qA seqs.length qz, .int .u16 base, .int .u32 ref, .int .u8 count, .slice aA arrs.length az, .slice wA wants.length wz] : Array Value)[i]? from (Blk.all (hs.at 0 rfl)).1))
  have HLB := Lib.hid (show (piecesB seqs).length ≤ 128 by have := piecesB_le _ seqs (Nat.le_refl _); omega)
  have HORD := Lib.hid (show Ord seqs by rcases HGD.out.1 with h | h | h | h | h | h | h <;> simp at h; exact h.1)
  refine wp_region_held_drew (S := fun w' => ∀ i, w'.cell? ⟨q, i, none⟩ = (#[.int .i64 5, .int .u32 sender, .int .u32 media, .int .u64 ntp, .int .u32 rtp, .int .u32 pkts, .int .u32 octs, .slice rA reps.length rz, .string name, .slice sA srcs.length sz, .slice qA seqs.length qz, .int .u16 base, .int .u32 ref, .int .u8 count, .slice aA arrs.length az, .slice wA wants.length wz] : Array Value)[i]?) (by kernel_rfl) (HSS.out _ _ (.refl _) HST.out.drew) (fun hHeld => ?_)
  refine wpAnyH_take (i := 0) (oi := _) (v := ?_) rfl (by kernel_rfl) (by kernel_rfl) (by kernel_rfl) (fun _ _ _ h => h) (Or.inl ⟨by rfl, ?_⟩) (by assumption) ?_
  rotate_left
  · (intro w hSw; (try dsimp only at hSw); go_simp; try with_reducible rfl)
  try simp only [Act.put, List.getElem_toArray, List.getElem_cons_zero, List.getElem_cons_succ, List.setIfInBounds_toArray, List.set_cons_zero, List.set_cons_succ]
  refine wpAnyH_take (i := 1) (oi := _) (v := ?_) rfl (by kernel_rfl) (by kernel_rfl) (by kernel_rfl) (fun _ _ _ h => h) (Or.inl ⟨by rfl, ?_⟩) (by assumption) ?_
  rotate_left
  · (intro w hSw; (try dsimp only at hSw); go_simp; try with_reducible rfl)
  try simp only [Act.put, List.getElem_toArray, List.getElem_cons_zero, List.getElem_cons_succ, List.setIfInBounds_toArray, List.set_cons_zero, List.set_cons_succ]
  refine wpAnyH_take (i := 3) (oi := _) (v := ?_) rfl (by kernel_rfl) (by kernel_rfl) (by kernel_rfl) (fun _ _ _ h => h) (Or.inl ⟨by rfl, ?_⟩) (by assumption) ?_
  rotate_left
  · (intro w hSw; (try dsimp only at hSw); go_simp; try with_reducible rfl)
  try simp only [Act.put, List.getElem_toArray, List.getElem_cons_zero, List.getElem_cons_succ, List.setIfInBounds_toArray, List.set_cons_zero, List.set_cons_succ]
  refine wpAnyH_take (i := 4) (oi := _) (v := ?_) rfl (by kernel_rfl) (by kernel_rfl) (by kernel_rfl) (fun _ _ _ h => h) (Or.inl ⟨by rfl, ?_⟩) (by assumption) ?_
  rotate_left
  · (intro w hSw; (try dsimp only at hSw); go_simp; try with_reducible rfl)
  try simp only [Act.put, List.getElem_toArray, List.getElem_cons_zero, List.getElem_cons_succ, List.setIfInBounds_toArray, List.set_cons_zero, List.set_cons_succ]
  refine wpAnyH_take (i := 6) (oi := _) (v := ?_) rfl (by kernel_rfl) (by kernel_rfl) (by kernel_rfl) (fun _ _ _ h => h) (Or.inl ⟨by rfl, ?_⟩) (by assumption) ?_
  rotate_left
  · (intro w hSw; (try dsimp only at hSw); go_simp; try with_reducible rfl)
  try simp only [Act.put, List.getElem_toArray, List.getElem_cons_zero, List.getElem_cons_succ, List.setIfInBounds_toArray, List.set_cons_zero, List.set_cons_succ]
  refine wpAnyH_take (i := 7) (oi := _) (v := ?_) rfl (by kernel_rfl) (by kernel_rfl) (by kernel_rfl) (fun _ _ _ h => h) (Or.inl ⟨by rfl, ?_⟩) (by assumption) ?_
  rotate_left
  · (intro w hSw; (try dsimp only at hSw); go_simp; try with_reducible rfl)
  try simp only [Act.put, List.getElem_toArray, List.getElem_cons_zero, List.getElem_cons_succ, List.setIfInBounds_toArray, List.set_cons_zero, List.set_cons_succ]
  refine anyH_ro (I := I) (M := bk q 56 #[.int .i64 5, .int .u32 sender, .int .u32 media, .int .u64 ntp, .int .u32 rtp, .int .u32 pkts, .int .u32 octs, .slice rA reps.length rz, .string name, .slice sA srcs.length sz, .slice qA seqs.length qz, .int .u16 base, .int .u32 ref, .int .u8 count, .slice aA arrs.length az, .slice wA wants.length wz] :: M) (l := [(2, 126, u32B sender), (5, 129, u32B media), (8, 132, piecesB seqs)]) 3 (by kernel_rfl) (by simp only [List.map_cons, List.map_nil]; decide) (by simp only [List.map_cons, List.map_nil]; decide) HSS.out HST.out.drew ?_ ?_
  · refine List.forall_mem_cons.2 ⟨?_, List.forall_mem_cons.2 ⟨?_, List.forall_mem_cons.2 ⟨?_, fun _ h => by cases h⟩⟩⟩
    · refine CdStep.call (o := _) rfl rfl rfl rfl (fun _ _ => rfl) ?_ (fun J w hle hs => (four_frz J _ w (sender) (HOK.out.sender) hs).mono (fun _ _ h => h))
      intro xf; simp [Act.over, setAll, Act.eval]
    · refine CdStep.call (o := _) rfl rfl rfl rfl (fun _ _ => rfl) ?_ (fun J w hle hs => (four_frz J _ w (media) (HOK.out.media) hs).mono (fun _ _ h => h))
      intro xf; simp [Act.over, setAll, Act.eval]
    · refine CdStep.call (o := _) rfl rfl rfl rfl (fun _ _ => rfl) ?_ (fun J w hle hs => (piecesR J _ w qA qz seqs (HCQ.out.mono hle) HOK.out.seqs n3 HORD.out hs).mono (fun _ _ h => h))
      intro xf; simp [Act.over, setAll, Act.eval]
  · intro xf J w hle hs hx
    have r0 : RoB (u32B sender) (xf 126) J := hx (2, 126, u32B sender) (by simp)
    have r1 : RoB (u32B media) (xf 129) J := hx (5, 129, u32B media) (by simp)
    have r2 : RoB (piecesB seqs) (xf 132) J := hx (8, 132, piecesB seqs) (by simp)
    simp only [List.map_cons, List.map_nil, Act.over, setAll, List.foldl_cons, List.foldl_nil, List.setIfInBounds_toArray, List.set_cons_zero, List.set_cons_succ]
    generalize xf 126 = v126 at *
    obtain ⟨A126, c126, rfl, b126⟩ := r0
    generalize xf 129 = v129 at *
    obtain ⟨A129, c129, rfl, b129⟩ := r1
    generalize xf 132 = v132 at *
    obtain ⟨A132, c132, rfl, b132⟩ := r2
    clear hx
    refine wpAnyH_ready (rs := [9]) (by kernel_rfl) (by simp) ?_
    refine AllReadyH.cons (o := _) rfl (fun K hK => ?_) AllReadyH.nil
    go_simp
    try clear hHeld
    refine hK.out _ _ (HSS.out J _ hle (hs.grow _)) (fun hHeld => ?_)
    clear hK K
    try simp only [Act.put, List.getElem_toArray, List.getElem_cons_zero, List.getElem_cons_succ, List.setIfInBounds_toArray, List.set_cons_zero, List.set_cons_succ]
    obtain ⟨J2, hle2, hs2, hobj⟩ := (hs.alloc 24 #[.slice A126 (u32B sender).length c126, .slice A129 (u32B media).length c129, .slice A132 (piecesB seqs).length c132]).freezeBlk
    have hcs := Cells.ofBlk hobj
    refine wpAnyH_ready (rs := [10]) (by kernel_rfl) (by simp) ?_
    refine AllReadyH.cons (o := _) rfl (fun K hK => ?_) AllReadyH.nil
    go_simp
    go_at_call 35
    refine (joinR J2 (bk q 56 #[.int .i64 5, .int .u32 sender, .int .u32 media, .int .u64 ntp, .int .u32 rtp, .int .u32 pkts, .int .u32 octs, .slice rA reps.length rz, .string name, .slice sA srcs.length sz, .slice qA seqs.length qz, .int .u16 base, .int .u32 ref, .int .u8 count, .slice aA arrs.length az, .slice wA wants.length wz] :: M) _ (some ⟨w.heap.size, 0, none⟩) 3 [u32B sender, u32B media, piecesB seqs] [.slice A126 (u32B sender).length c126, .slice A129 (u32B media).length c129, .slice A132 (piecesB seqs).length c132] hcs ⟨⟨A126, c126, rfl, b126.mono hle2⟩, ⟨A129, c129, rfl, b129.mono hle2⟩, ⟨A132, c132, rfl, b132.mono hle2⟩, trivial⟩ (by simp) (by have := HLB.out; simp only [List.flatten_cons, List.flatten_nil, List.length_append, List.length_cons, List.length_nil, u32B_len, u16B_len]; omega) hs2).mono ?_
    rintro e w3 ⟨_, _, _, rfl, _, hs3, rfl, A3, c3, rfl, hc3, rfl⟩
    obtain ⟨fl, hfl⟩ : ∃ z : List UInt8, z = ([u32B sender, u32B media, piecesB seqs] : List (List UInt8)).flatten := ⟨_, rfl⟩
    rw [← hfl] at hs3 hc3 ⊢
    have HFLAT := Lib.hid hfl
    clear hfl
    try clear hHeld
    refine hK.out _ _ (HSS.out J2 _ (hle.trans hle2) hs3.drop) (fun hHeld => ?_)
    clear hK K
    try simp only [Act.put, List.getElem_toArray, List.getElem_cons_zero, List.getElem_cons_succ, List.setIfInBounds_toArray, List.set_cons_zero, List.set_cons_succ]
    refine wpAnyH_take (i := 11) (oi := _) (v := ?_) rfl (by kernel_rfl) (by kernel_rfl) (by kernel_rfl) (fun _ _ _ h => h) (Or.inl ⟨by rfl, ?_⟩) (by assumption) ?_
    rotate_left
    · (intro w hSw; (try dsimp only at hSw); go_simp; try with_reducible rfl)
    try simp only [Act.put, List.getElem_toArray, List.getElem_cons_zero, List.getElem_cons_succ, List.setIfInBounds_toArray, List.set_cons_zero, List.set_cons_succ]
    refine wpAnyH_done (by kernel_rfl) ?_ _
    have hbq : fl = B := by rw [HFLAT.out, HBE.out]; exact body5 HGD.out
    subst hbq
    have HS := Lib.hid hs3
    have HLE := Lib.hid (hle.trans hle2)
    clear hs hs2 hs3 hHeld hle hle2 hcs hobj HFLAT
    generalize A3 = A4 at *
    go_upto_region 36 with fail
    go_loopw [3] (fun bv wr => ∃ (A : Option Addr) (n c : Nat), bv = .slice A n c ∧ n ≤ 4000 ∧ Hid (∃ (j : Nat) (J : Img), n = fl.length + j ∧ j ≤ (4 - fl.length % 4) % 4 ∧ I.le J ∧ St J (row 5 1 (.slice A n c) n (bvs (fl ++ List.replicate j 0)) :: bk q 56 #[.int .i64 5, .int .u32 sender, .int .u32 media, .int .u64 ntp, .int .u32 rtp, .int .u32 pkts, .int .u32 octs, .slice rA reps.length rz, .string name, .slice sA srcs.length sz, .slice qA seqs.length qz, .int .u16 base, .int .u32 ref, .int .u8 count, .slice aA arrs.length az, .slice wA wants.length wz] :: M) wr)) (fun bv _ => (4 - sliceLen bv % 4) % 4)
    case atStart => exact ⟨_, _, _, rfl, by omega, Lib.hid ⟨0, J2, rfl, Nat.zero_le _, HLE.out, by simpa using HS.out⟩⟩
    case round =>
      obtain ⟨A, n, c, rfl, hn, hh⟩ := hrel
      obtain ⟨j, J, hnj, hj, hle, hs⟩ := hh.out
      clear hh HS HLE
      have hln : (fl ++ List.replicate j 0).length = n := by rw [hnj]; simp
      have HLN := Lib.hid hln
      have HRP := Lib.hid (rep_snoc j)
      have HNJ := Lib.hid hnj
      by_cases hlt : j < (4 - fl.length % 4) % 4
      · have hm : ((n : Int) % 4 != 0) = true := by rw [bne_iff_ne]; omega
        obtain ⟨J3, hle3, hs3, hobj⟩ := (hs.alloc 5 #[.int .u8 0]).freezeBlk
        have HB1 := Lib.hid (show RoB [0] (.slice (some ⟨wr.heap.size, 0, none⟩) 1 1) J3 from ⟨_, 1, rfl, Byts.ofBlk hobj rfl⟩)
        obtain ⟨bl, hbe⟩ : ∃ bl, bl = fl ++ List.replicate j 0 := ⟨_, rfl⟩
        rw [← hbe] at hs3 hln
        rw [← hln] at hs3
        have HBL := Lib.hid hbe
        have HS3 := Lib.hid hs3
        have HLE := Lib.hid (hle.trans hle3)
        have HLT := Lib.hid hlt
        have HLL := Lib.hid hln
        clear hbe hle hle3 hs hs3 hobj hnj hj hln hlt
        go_wp2_with (at_builtin; refine wpList_appB rfl _ _ rfl J3 _ _ _ _ _ (by rw [HLL.out]; rfl) rfl HS3.out HB1.out (by have := HLL.out; simp only [List.length_cons, List.length_nil]; omega) ?_)
        intro v3 w3 hs4
        obtain ⟨A5, c5, rfl⟩ := own_form (show World.ownsRow _ 0 5 1 v3 _ _ from St.at hs4 0 rfl)
        have hl5 : (bl ++ [0]).length = n + 1 := by rw [List.length_append, HLL.out]; rfl
        have hs5 := show St J3 _ w3 from hs4
        rw [hl5] at hs5 ⊢
        have HS5 := Lib.hid hs5
        clear hs4 hs5 HS3 HB1 hl5
        go_wp2
        go_roundw
        case rel =>
          refine ⟨A5, n + 1, c5, rfl, by have := HLT.out; have := HNJ.out; omega, Lib.hid ⟨j + 1, J3, by have := HNJ.out; omega, by have := HLT.out; omega, HLE.out, ?_⟩⟩
          have := HS5.out
          rw [HBL.out, List.append_assoc, ← HRP.out] at this
          exact this
        case measure =>
          have h1 := HNJ.out
          have h2 := HLT.out
          show (4 - (n + 1) % 4) % 4 < (4 - n % 4) % 4
          omega
      · have hm : ((n : Int) % 4 != 0) = false := by rw [bne_eq_false_iff_eq]; omega
        have hjj : j = (4 - fl.length % 4) % 4 := by omega
        rw [hjj, even_rep] at hs hln
        obtain ⟨E, hE⟩ : ∃ E, E = evenL fl := ⟨_, rfl⟩
        rw [← hE] at hs hln
        have HE := Lib.hid hE
        obtain ⟨J3, hle3, hs3, hb3⟩ := hs.freezeRow
        have HS3 := Lib.hid hs3
        have HB3 := Lib.hid (show Byts J3 A E from hb3)
        have HLE := Lib.hid (hle.trans hle3)
        have HLL := Lib.hid hln
        clear hs hs3 hb3 hle hle3 hE hln hnj hj hjj hlt
        have HV := Lib.hid (show [byteOf (129), byteOf 205] ++ u16B ((E.length / 4 : Nat) : Int) ++ E = packB (⟨5, sender, media, ntp, rtp, pkts, octs, reps, name, srcs, seqs, base, ref, count, arrs, wants⟩ : Pk) by
          have e1 : 128 + low = 129 := by rw [HLE0.out]; rfl
          rw [← e1, HLE0.out, HE.out, HBE.out]
          rfl)
        obtain ⟨J4, hle4, hs4, hobj⟩ := (HS3.out.alloc 5 #[.int .u8 (129), .int .u8 205]).freezeBlk
        have HB4 := Lib.hid (show Byts J4 (some ⟨wr.heap.size, 0, none⟩) [byteOf (129), byteOf 205] from Byts.ofBlk hobj (lit_two (by omega) (by omega)))
        have HT := Lib.hid (twoR J4 _ _ ((n : Int) / 4) hs4)
        have HLE4 := Lib.hid hle4
        clear hle4 hs4 hobj HS3
        go_wp2_with fail
        go_at_call 39
        refine HT.out.mono ?_
        clear HT
        rintro e w2 ⟨_, _, _, rfl, _, hs1, rfl, A6, c6, rfl, hc6, rfl⟩
        obtain ⟨J5, hle5, hs5, hb5⟩ := hs1.freezeRow
        have hb5 : Byts J5 A6 (u16B ((n : Int) / 4 % 65536)) := hb5
        obtain ⟨J6, hle6, hs6, hobj⟩ := (hs5.alloc 24 #[.slice (some ⟨wr.heap.size, 0, none⟩) 2 2, .slice A6 (u16B ((n : Int) / 4 % 65536)).length c6, .slice A n c]).freezeBlk
        have hcs := Cells.ofBlk hobj
        have HJ := Lib.hid (joinR J6 (bk q 56 #[.int .i64 5, .int .u32 sender, .int .u32 media, .int .u64 ntp, .int .u32 rtp, .int .u32 pkts, .int .u32 octs, .slice rA reps.length rz, .string name, .slice sA srcs.length sz, .slice qA seqs.length qz, .int .u16 base, .int .u32 ref, .int .u8 count, .slice aA arrs.length az, .slice wA wants.length wz] :: M) _ (some ⟨w2.heap.size, 0, none⟩) 3 [[byteOf (129), byteOf 205], u16B ((n : Int) / 4 % 65536), E] [.slice (some ⟨wr.heap.size, 0, none⟩) 2 2, .slice A6 (u16B ((n : Int) / 4 % 65536)).length c6, .slice A n c] hcs ⟨⟨_, 2, rfl, (HB4.out.mono hle5).mono hle6⟩, ⟨A6, c6, rfl, hb5.mono hle6⟩, ⟨A, c, by rw [HLL.out], ((HB3.out.mono HLE4.out).mono hle5).mono hle6⟩, trivial⟩ (by simp) (by have := HLL.out; simp only [List.flatten_cons, List.flatten_nil, List.length_append, List.length_cons, List.length_nil, u16B_len]; omega) hs6)
        have HL := Lib.hid (((HLE.out.trans HLE4.out).trans hle5).trans hle6)
        clear hs1 hs5 hs6 hb5 hc6 hobj hcs hle5 hle6 HB3 HB4
        go_wp2_with fail
        go_at_call 35
        refine HJ.out.mono ?_
        clear HJ
        rintro e w4 ⟨_, _, _, rfl, _, hs7, rfl, A7, c7, rfl, hc7, rfl⟩
        have HPE := Lib.hid (show ([[byteOf (129), byteOf 205], u16B ((n : Int) / 4 % 65536), E] : List (List UInt8)).flatten = packB (⟨5, sender, media, ntp, rtp, pkts, octs, reps, name, srcs, seqs, base, ref, count, arrs, wants⟩ : Pk) by
          rw [← HV.out, HLL.out]
          have e2 : (n : Int) / 4 % 65536 = ((n / 4 : Nat) : Int) := by omega
          rw [e2]
          simp)
        rw [HPE.out] at hs7 hc7 ⊢
        have HF := Lib.hid (show Bui I M (⟨5, sender, media, ntp, rtp, pkts, octs, reps, name, srcs, seqs, base, ref, count, arrs, wants⟩ : Pk) (.returned _) w4 from Ret.mk HL.out (St.swap1 hs7).drop ⟨A7, c7, rfl, rfl⟩)
        clear hs7 hc7 HPE HV
        generalize packB (⟨5, sender, media, ntp, rtp, pkts, octs, reps, name, srcs, seqs, base, ref, count, arrs, wants⟩ : Pk) = pbs at *
        go_wp2
        go_returns
        exact HF.out
end Go.Proofs.Ytddopbbmgpnjjaa
namespace Go.Proofs.Ytddopbbmgpnjjaa
open Go.RowKit
set_option linter.unusedSimpArgs false

set_option maxRecDepth 100000 in
set_option maxHeartbeats 40000000 in
theorem build6 (I : Img) (M : List Res) (w : World) (sender : Int) (media : Int) (ntp : Int) (rtp : Int) (pkts : Int) (octs : Int) (base : Int) (ref : Int) (count : Int) (name : ByteArray) (reps : List Rp) (srcs seqs arrs : List Int) (wants : List Wn) (rA : Option Addr) (rz : Nat) (sA : Option Addr) (sz : Nat) (qA : Option Addr) (qz : Nat) (aA : Option Addr) (az : Nat) (wA : Option Addr) (wz : Nat) (cr : Cells I rA (flat repC reps)) (cs : Cells I sA (flat u32C srcs)) (cq : Cells I qA (flat u16C seqs)) (ca : Cells I aA (flat intC arrs)) (cw : Cells I wA (flat wnC wants)) (hok : PkOk (⟨6, sender, media, ntp, rtp, pkts, octs, reps, name, srcs, seqs, base, ref, count, arrs, wants⟩ : Pk)) (hg : Good (⟨6, sender, media, ntp, rtp, pkts, octs, reps, name, srcs, seqs, base, ref, count, arrs, wants⟩ : Pk)) (hst : St I M w) :
    Calls Try.prog 18 #[.agg #[.int .i64 6, .int .u32 sender, .int .u32 media, .int .u64 ntp, .int .u32 rtp, .int .u32 pkts, .int .u32 octs, .slice rA reps.length rz, .string name, .slice sA srcs.length sz, .slice qA seqs.length qz, .int .u16 base, .int .u32 ref, .int .u8 count, .slice aA arrs.length az, .slice wA wants.length wz]] w (Bui I M (⟨6, sender, media, ntp, rtp, pkts, octs, reps, name, srcs, seqs, base, ref, count, arrs, wants⟩ : Pk)) := by
  have hs1 := hst.alloc 56 #[.int .i64 6, .int .u32 sender, .int .u32 media, .int .u64 ntp, .int .u32 rtp, .int .u32 pkts, .int .u32 octs, .slice rA reps.length rz, .string name, .slice sA srcs.length sz, .slice qA seqs.length qz, .int .u16 base, .int .u32 ref, .int .u8 count, .slice aA arrs.length az, .slice wA wants.length wz]
  have HOK := Lib.hid hok
  have HGD := Lib.hid hg
  have hbl := body_len hg
  obtain ⟨n1, n2, n3, n4, n5, n6⟩ := good_lens hg
  have HLOW := Lib.hid (lowP_ok hg)
  simp only [] at n1 n2 n3 n4 n5 n6
  have HCR := Lib.hid cr
  have HCS := Lib.hid cs
  have HCW := Lib.hid cw
  have HCQ := Lib.hid cq
  have HCA := Lib.hid ca
  clear cr cs cq ca cw hok hg hst
  obtain ⟨B, hB⟩ : ∃ B, B = bodyL (⟨6, sender, media, ntp, rtp, pkts, octs, reps, name, srcs, seqs, base, ref, count, arrs, wants⟩ : Pk) := ⟨_, rfl⟩
  rw [← hB] at hbl
  obtain ⟨low, hlow⟩ : ∃ low, low = lowP (⟨6, sender, media, ntp, rtp, pkts, octs, reps, name, srcs, seqs, base, ref, count, arrs, wants⟩ : Pk) := ⟨_, rfl⟩
  obtain ⟨q, hq⟩ : ∃ q, q = w.heap.size := ⟨_, rfl⟩
  rw [← hq] at hs1
  have HBE := Lib.hid hB
  have HLE0 := Lib.hid hlow
  clear hB hlow
  go_enter Try.func18, Try.ntmps18
  go_upto_region 1 with fail
  rw [← hq]
  clear hq
  generalize World.alloc w _ = W at hs1 ⊢
  obtain ⟨hc1, hf1, hl1⟩ := Blk.all (hs1.at 0 rfl)
  have HST := Lib.hid hs1
  clear hs1
  go_upto_region 32 with fail
  clear hc1 hf1 hl1
  have HSS := Lib.hid (fun (J : Img) (w' : World) (_ : I.le J) (hs : St J (bk q 56 #[.int .i64 6, .int .u32 sender, .int .u32 media, .int .u64 ntp, .int .u32 rtp, .int .u32 pkts, .int .u32 octs, .slice rA reps.length rz, .string name, .slice sA srcs.length sz, .slice qA seqs.length qz, .int .u16 base, .int .u32 ref, .int .u8 count, .slice aA arrs.length az, .slice wA wants.length wz] :: M) w') => (show ∀ i, w'.cell? ⟨q, i, none⟩ = (#[.int .i64 6, .int .u32 sender, .int .u32 media, .int .u64 ntp, .int .u32 rtp, .int .u32 pkts, .int .u32 octs, .slice rA reps.length rz, .string name, .slice sA srcs.length sz, .slice qA seqs.length qz, .int .u16 base, .int .u32 ref, .int .u8 count, .slice aA arrs.length az, .slice wA wants.length wz] : Array Value)[i]? from (Blk.all (hs.at 0 rfl)).1))
  have HAR := Lib.hid (show 1 ≤ arrs.length ∧ ∀ a ∈ arrs, badA a = false by
    rcases HGD.out.1 with h | h | h | h | h | h | h <;> simp at h
    exact ⟨h.2.1, h.1⟩)
  have HLB := Lib.hid (show (arrsL arrs).length ≤ 1020 by
    have hm := foldM_ok arrs.length arrs (Nat.le_refl _)
    unfold arrsL arrsM
    rw [List.length_append]
    omega)
  have ho1 := HOK.out.ref
  have ho2 := HOK.out.count
  have ho3 := HOK.out.base
  simp only [] at ho1 ho2 ho3
  have hor := or_ref ho1 ho2
  obtain ⟨p1, p2⟩ := ho1
  obtain ⟨p3, p4⟩ := ho2
  obtain ⟨p5, p6⟩ := ho3
  have hw1 : IntKind.u32.wrap (ref * 256) = ref * 256 := wrap_u32 (by omega) (by omega)
  have hw2 : IntKind.u32.wrap count = count := wrap_u32 (by omega) (by omega)
  have hw3 : IntKind.i64.wrap base = base := wrap_i64 (by omega) (by omega)
  have hw4 : IntKind.u32.wrap (IntKind.u32.wrap (ref * 256)) = ref * 256 := by rw [hw1, hw1]
  refine wp_region_held_drew (S := fun w' => ∀ i, w'.cell? ⟨q, i, none⟩ = (#[.int .i64 6, .int .u32 sender, .int .u32 media, .int .u64 ntp, .int .u32 rtp, .int .u32 pkts, .int .u32 octs, .slice rA reps.length rz, .string name, .slice sA srcs.length sz, .slice qA seqs.length qz, .int .u16 base, .int .u32 ref, .int .u8 count, .slice aA arrs.length az, .slice wA wants.length wz] : Array Value)[i]?) (by kernel_rfl) (HSS.out _ _ (.refl _) HST.out.drew) (fun hHeld => ?_)
  refine wpAnyH_take (i := 0) (oi := _) (v := ?_) rfl (by kernel_rfl) (by kernel_rfl) (by kernel_rfl) (fun _ _ _ h => h) (Or.inl ⟨by rfl, ?_⟩) (by assumption) ?_
  rotate_left
  · (intro w hSw; (try dsimp only at hSw); go_simp; try with_reducible rfl)
  try simp only [Act.put, List.getElem_toArray, List.getElem_cons_zero, List.getElem_cons_succ, List.setIfInBounds_toArray, List.set_cons_zero, List.set_cons_succ]
  refine wpAnyH_take (i := 1) (oi := _) (v := ?_) rfl (by kernel_rfl) (by kernel_rfl) (by kernel_rfl) (fun _ _ _ h => h) (Or.inl ⟨by rfl, ?_⟩) (by assumption) ?_
  rotate_left
  · (intro w hSw; (try dsimp only at hSw); go_simp; try with_reducible rfl)
  try simp only [Act.put, List.getElem_toArray, List.getElem_cons_zero, List.getElem_cons_succ, List.setIfInBounds_toArray, List.set_cons_zero, List.set_cons_succ]
  refine wpAnyH_take (i := 3) (oi := _) (v := ?_) rfl (by kernel_rfl) (by kernel_rfl) (by kernel_rfl) (fun _ _ _ h => h) (Or.inl ⟨by rfl, ?_⟩) (by assumption) ?_
  rotate_left
  · (intro w hSw; (try dsimp only at hSw); go_simp; try with_reducible rfl)
  try simp only [Act.put, List.getElem_toArray, List.getElem_cons_zero, List.getElem_cons_succ, List.setIfInBounds_toArray, List.set_cons_zero, List.set_cons_succ]
  refine wpAnyH_take (i := 4) (oi := _) (v := ?_) rfl (by kernel_rfl) (by kernel_rfl) (by kernel_rfl) (fun _ _ _ h => h) (Or.inl ⟨by rfl, ?_⟩) (by assumption) ?_
  rotate_left
  · (intro w hSw; (try dsimp only at hSw); go_simp; try with_reducible rfl)
  try simp only [Act.put, List.getElem_toArray, List.getElem_cons_zero, List.getElem_cons_succ, List.setIfInBounds_toArray, List.set_cons_zero, List.set_cons_succ]
  refine wpAnyH_take (i := 6) (oi := _) (v := ?_) rfl (by kernel_rfl) (by kernel_rfl) (by kernel_rfl) (fun _ _ _ h => h) (Or.inl ⟨by rfl, ?_⟩) (by assumption) ?_
  rotate_left
  · (intro w hSw; (try dsimp only at hSw); go_simp; try with_reducible rfl)
  try simp only [Act.put, List.getElem_toArray, List.getElem_cons_zero, List.getElem_cons_succ, List.setIfInBounds_toArray, List.set_cons_zero, List.set_cons_succ]
  refine wpAnyH_take (i := 7) (oi := _) (v := ?_) rfl (by kernel_rfl) (by kernel_rfl) (by kernel_rfl) (fun _ _ _ h => h) (Or.inl ⟨by rfl, ?_⟩) (by assumption) ?_
  rotate_left
  · (intro w hSw; (try dsimp only at hSw); go_simp; try with_reducible rfl)
  try simp only [Act.put, List.getElem_toArray, List.getElem_cons_zero, List.getElem_cons_succ, List.setIfInBounds_toArray, List.set_cons_zero, List.set_cons_succ]
  refine wpAnyH_take (i := 8) (oi := _) (v := ?_) rfl (by kernel_rfl) (by kernel_rfl) (by kernel_rfl) (fun _ _ _ h => h) (Or.inl ⟨by rfl, ?_⟩) (by assumption) ?_
  rotate_left
  · (intro w hSw; (try dsimp only at hSw); go_simp; try with_reducible rfl)
  try simp only [Act.put, List.getElem_toArray, List.getElem_cons_zero, List.getElem_cons_succ, List.setIfInBounds_toArray, List.set_cons_zero, List.set_cons_succ]
  refine wpAnyH_take (i := 10) (oi := _) (v := ?_) rfl (by kernel_rfl) (by kernel_rfl) (by kernel_rfl) (fun _ _ _ h => h) (Or.inl ⟨by rfl, ?_⟩) (by assumption) ?_
  rotate_left
  · (intro w hSw; (try dsimp only at hSw); go_simp; try with_reducible rfl)
  try simp only [Act.put, List.getElem_toArray, List.getElem_cons_zero, List.getElem_cons_succ, List.setIfInBounds_toArray, List.set_cons_zero, List.set_cons_succ]
  refine wpAnyH_take (i := 11) (oi := _) (v := ?_) rfl (by kernel_rfl) (by kernel_rfl) (by kernel_rfl) (fun _ _ _ h => h) (Or.inl ⟨by rfl, ?_⟩) (by assumption) ?_
  rotate_left
  · (intro w hSw; (try dsimp only at hSw); go_simp; try with_reducible rfl)
  try simp only [Act.put, List.getElem_toArray, List.getElem_cons_zero, List.getElem_cons_succ, List.setIfInBounds_toArray, List.set_cons_zero, List.set_cons_succ]
  refine wpAnyH_take (i := 12) (oi := _) (v := ?_) rfl (by kernel_rfl) (by kernel_rfl) (by kernel_rfl) (fun _ _ _ h => h) (Or.inl ⟨by rfl, ?_⟩) (by assumption) ?_
  rotate_left
  · (intro w hSw; (try dsimp only at hSw); go_simp; try with_reducible rfl)
  try simp only [Act.put, List.getElem_toArray, List.getElem_cons_zero, List.getElem_cons_succ, List.setIfInBounds_toArray, List.set_cons_zero, List.set_cons_succ]
  refine wpAnyH_take (i := 14) (oi := _) (v := ?_) rfl (by kernel_rfl) (by kernel_rfl) (by kernel_rfl) (fun _ _ _ h => h) (Or.inl ⟨by rfl, ?_⟩) (by assumption) ?_
  rotate_left
  · (intro w hSw; (try dsimp only at hSw); go_simp; try with_reducible rfl)
  try simp only [Act.put, List.getElem_toArray, List.getElem_cons_zero, List.getElem_cons_succ, List.setIfInBounds_toArray, List.set_cons_zero, List.set_cons_succ]
  refine wpAnyH_take (i := 15) (oi := _) (v := ?_) rfl (by kernel_rfl) (by kernel_rfl) (by kernel_rfl) (fun _ _ _ h => h) (Or.inl ⟨by rfl, ?_⟩) (by assumption) ?_
  rotate_left
  · (intro w hSw; (try dsimp only at hSw); go_simp; try with_reducible rfl)
  try simp only [Act.put, List.getElem_toArray, List.getElem_cons_zero, List.getElem_cons_succ, List.setIfInBounds_toArray, List.set_cons_zero, List.set_cons_succ]
  refine wpAnyH_take (i := 16) (oi := _) (v := ?_) rfl (by kernel_rfl) (by kernel_rfl) (by kernel_rfl) (fun _ _ _ h => h) (Or.inl ⟨by rfl, ?_⟩) (by assumption) ?_
  rotate_left
  · (intro w hSw; (try dsimp only at hSw); go_simp; try with_reducible rfl)
  try simp only [Act.put, List.getElem_toArray, List.getElem_cons_zero, List.getElem_cons_succ, List.setIfInBounds_toArray, List.set_cons_zero, List.set_cons_succ]
  refine wpAnyH_take (i := 17) (oi := _) (v := ?_) rfl (by kernel_rfl) (by kernel_rfl) (by kernel_rfl) (fun _ _ _ h => h) (Or.inl ⟨by rfl, ?_⟩) (by assumption) ?_
  rotate_left
  · (intro w hSw; (try dsimp only at hSw); go_simp; try with_reducible rfl)
  try simp only [Act.put, List.getElem_toArray, List.getElem_cons_zero, List.getElem_cons_succ, List.setIfInBounds_toArray, List.set_cons_zero, List.set_cons_succ]
  refine wpAnyH_take (i := 18) (oi := _) (v := ?_) rfl (by kernel_rfl) (by kernel_rfl) (by kernel_rfl) (fun _ _ _ h => h) (Or.inl ⟨by rfl, ?_⟩) (by assumption) ?_
  rotate_left
  · (intro w hSw; (try dsimp only at hSw); go_simp; try with_reducible rfl)
  try simp only [Act.put, List.getElem_toArray, List.getElem_cons_zero, List.getElem_cons_succ, List.setIfInBounds_toArray, List.set_cons_zero, List.set_cons_succ]
  refine wpAnyH_take (i := 19) (oi := _) (v := ?_) rfl (by kernel_rfl) (by kernel_rfl) (by kernel_rfl) (fun _ _ _ h => h) (Or.inl ⟨by rfl, ?_⟩) (by assumption) ?_
  rotate_left
  · (intro w hSw; (try dsimp only at hSw); go_simp; try with_reducible rfl)
  try simp only [Act.put, List.getElem_toArray, List.getElem_cons_zero, List.getElem_cons_succ, List.setIfInBounds_toArray, List.set_cons_zero, List.set_cons_succ]
  refine wpAnyH_take (i := 20) (oi := _) (v := ?_) rfl (by kernel_rfl) (by kernel_rfl) (by kernel_rfl) (fun _ _ _ h => h) (Or.inl ⟨by rfl, ?_⟩) (by assumption) ?_
  rotate_left
  · (intro w hSw; (try dsimp only at hSw); go_simp; try with_reducible rfl)
  try simp only [Act.put, List.getElem_toArray, List.getElem_cons_zero, List.getElem_cons_succ, List.setIfInBounds_toArray, List.set_cons_zero, List.set_cons_succ]
  refine wpAnyH_take (i := 22) (oi := _) (v := ?_) rfl (by kernel_rfl) (by kernel_rfl) (by kernel_rfl) (fun _ _ _ h => h) (Or.inl ⟨by rfl, ?_⟩) (by assumption) ?_
  rotate_left
  · (intro w hSw; (try dsimp only at hSw); go_simp; try with_reducible rfl)
  try simp only [Act.put, List.getElem_toArray, List.getElem_cons_zero, List.getElem_cons_succ, List.setIfInBounds_toArray, List.set_cons_zero, List.set_cons_succ]
  refine wpAnyH_take (i := 23) (oi := _) (v := ?_) rfl (by kernel_rfl) (by kernel_rfl) (by kernel_rfl) (fun _ _ _ h => h) (Or.inl ⟨by rfl, ?_⟩) (by assumption) ?_
  rotate_left
  · (intro w hSw; (try dsimp only at hSw); go_simp; try with_reducible rfl)
  try simp only [Act.put, List.getElem_toArray, List.getElem_cons_zero, List.getElem_cons_succ, List.setIfInBounds_toArray, List.set_cons_zero, List.set_cons_succ]
  refine anyH_ro (I := I) (M := bk q 56 #[.int .i64 6, .int .u32 sender, .int .u32 media, .int .u64 ntp, .int .u32 rtp, .int .u32 pkts, .int .u32 octs, .slice rA reps.length rz, .string name, .slice sA srcs.length sz, .slice qA seqs.length qz, .int .u16 base, .int .u32 ref, .int .u8 count, .slice aA arrs.length az, .slice wA wants.length wz] :: M) (l := [(2, 139, u32B sender), (5, 142, u32B media), (9, 146, u16B (base % 65536)), (13, 150, u16B ((arrs.length : Int) % 65536)), (21, 158, u32B (ref * 256 + count)), (24, 161, arrsL arrs)]) 3 (by kernel_rfl) (by simp only [List.map_cons, List.map_nil]; decide) (by simp only [List.map_cons, List.map_nil]; decide) HSS.out HST.out.drew ?_ ?_
  · refine List.forall_mem_cons.2 ⟨?_, List.forall_mem_cons.2 ⟨?_, List.forall_mem_cons.2 ⟨?_, List.forall_mem_cons.2 ⟨?_, List.forall_mem_cons.2 ⟨?_, List.forall_mem_cons.2 ⟨?_, fun _ h => by cases h⟩⟩⟩⟩⟩⟩
    · refine CdStep.call (o := _) rfl rfl rfl rfl (fun _ _ => rfl) ?_ (fun J w hle hs => (four_frz J _ w (sender) (HOK.out.sender) hs).mono (fun _ _ h => h))
      intro xf; simp [Act.over, setAll, Act.eval, hw1, hw2, hw3, hw4, hor]
    · refine CdStep.call (o := _) rfl rfl rfl rfl (fun _ _ => rfl) ?_ (fun J w hle hs => (four_frz J _ w (media) (HOK.out.media) hs).mono (fun _ _ h => h))
      intro xf; simp [Act.over, setAll, Act.eval, hw1, hw2, hw3, hw4, hor]
    · refine CdStep.call (o := _) rfl rfl rfl rfl (fun _ _ => rfl) ?_ (fun J w hle hs => (two_frz J _ w base hs).mono (fun _ _ h => h))
      intro xf; simp [Act.over, setAll, Act.eval, hw1, hw2, hw3, hw4, hor]
    · refine CdStep.call (o := _) rfl rfl rfl rfl (fun _ _ => rfl) ?_ (fun J w hle hs => (two_frz J _ w arrs.length hs).mono (fun _ _ h => h))
      intro xf; simp [Act.over, setAll, Act.eval, hw1, hw2, hw3, hw4, hor]
    · refine CdStep.call (o := _) rfl rfl rfl rfl (fun _ _ => rfl) ?_ (fun J w hle hs => (four_frz J _ w (ref * 256 + count) (⟨by omega, by omega⟩) hs).mono (fun _ _ h => h))
      intro xf; simp [Act.over, setAll, Act.eval, hw1, hw2, hw3, hw4, hor]
    · refine CdStep.call (o := _) rfl rfl rfl rfl (fun _ _ => rfl) ?_ (fun J w hle hs => (arrivalsR J _ w aA az arrs (HCA.out.mono hle) HAR.out.1 n4 HAR.out.2 hs).mono (fun _ _ h => h))
      intro xf; simp [Act.over, setAll, Act.eval, hw1, hw2, hw3, hw4, hor]
  · intro xf J w hle hs hx
    have r0 : RoB (u32B sender) (xf 139) J := hx (2, 139, u32B sender) (by simp)
    have r1 : RoB (u32B media) (xf 142) J := hx (5, 142, u32B media) (by simp)
    have r2 : RoB (u16B (base % 65536)) (xf 146) J := hx (9, 146, u16B (base % 65536)) (by simp)
    have r3 : RoB (u16B ((arrs.length : Int) % 65536)) (xf 150) J := hx (13, 150, u16B ((arrs.length : Int) % 65536)) (by simp)
    have r4 : RoB (u32B (ref * 256 + count)) (xf 158) J := hx (21, 158, u32B (ref * 256 + count)) (by simp)
    have r5 : RoB (arrsL arrs) (xf 161) J := hx (24, 161, arrsL arrs) (by simp)
    simp only [List.map_cons, List.map_nil, Act.over, setAll, List.foldl_cons, List.foldl_nil, List.setIfInBounds_toArray, List.set_cons_zero, List.set_cons_succ]
    generalize xf 139 = v139 at *
    obtain ⟨A139, c139, rfl, b139⟩ := r0
    generalize xf 142 = v142 at *
    obtain ⟨A142, c142, rfl, b142⟩ := r1
    generalize xf 146 = v146 at *
    obtain ⟨A146, c146, rfl, b146⟩ := r2
    generalize xf 150 = v150 at *
    obtain ⟨A150, c150, rfl, b150⟩ := r3
    generalize xf 158 = v158 at *
    obtain ⟨A158, c158, rfl, b158⟩ := r4
    generalize xf 161 = v161 at *
    obtain ⟨A161, c161, rfl, b161⟩ := r5
    clear hx
    refine wpAnyH_ready (rs := [25]) (by kernel_rfl) (by simp) ?_
    refine AllReadyH.cons (o := _) rfl (fun K hK => ?_) AllReadyH.nil
    go_simp
    try clear hHeld
    refine hK.out _ _ (HSS.out J _ hle (hs.grow _)) (fun hHeld => ?_)
    clear hK K
    try simp only [Act.put, List.getElem_toArray, List.getElem_cons_zero, List.getElem_cons_succ, List.setIfInBounds_toArray, List.set_cons_zero, List.set_cons_succ]
    obtain ⟨J2, hle2, hs2, hobj⟩ := (hs.alloc 24 #[.slice A139 (u32B sender).length c139, .slice A142 (u32B media).length c142, .slice A146 (u16B (base % 65536)).length c146, .slice A150 (u16B ((arrs.length : Int) % 65536)).length c150, .slice A158 (u32B (ref * 256 + count)).length c158, .slice A161 (arrsL arrs).length c161]).freezeBlk
    have hcs := Cells.ofBlk hobj
    refine wpAnyH_ready (rs := [26]) (by kernel_rfl) (by simp) ?_
    refine AllReadyH.cons (o := _) rfl (fun K hK => ?_) AllReadyH.nil
    go_simp
    go_at_call 35
    refine (joinR J2 (bk q 56 #[.int .i64 6, .int .u32 sender, .int .u32 media, .int .u64 ntp, .int .u32 rtp, .int .u32 pkts, .int .u32 octs, .slice rA reps.length rz, .string name, .slice sA srcs.length sz, .slice qA seqs.length qz, .int .u16 base, .int .u32 ref, .int .u8 count, .slice aA arrs.length az, .slice wA wants.length wz] :: M) _ (some ⟨w.heap.size, 0, none⟩) 6 [u32B sender, u32B media, u16B (base % 65536), u16B ((arrs.length : Int) % 65536), u32B (ref * 256 + count), arrsL arrs] [.slice A139 (u32B sender).length c139, .slice A142 (u32B media).length c142, .slice A146 (u16B (base % 65536)).length c146, .slice A150 (u16B ((arrs.length : Int) % 65536)).length c150, .slice A158 (u32B (ref * 256 + count)).length c158, .slice A161 (arrsL arrs).length c161] hcs ⟨⟨A139, c139, rfl, b139.mono hle2⟩, ⟨A142, c142, rfl, b142.mono hle2⟩, ⟨A146, c146, rfl, b146.mono hle2⟩, ⟨A150, c150, rfl, b150.mono hle2⟩, ⟨A158, c158, rfl, b158.mono hle2⟩, ⟨A161, c161, rfl, b161.mono hle2⟩, trivial⟩ (by simp) (by have := HLB.out; simp only [List.flatten_cons, List.flatten_nil, List.length_append, List.length_cons, List.length_nil, u32B_len, u16B_len]; omega) hs2).mono ?_
    rintro e w3 ⟨_, _, _, rfl, _, hs3, rfl, A3, c3, rfl, hc3, rfl⟩
    obtain ⟨fl, hfl⟩ : ∃ z : List UInt8, z = ([u32B sender, u32B media, u16B (base % 65536), u16B ((arrs.length : Int) % 65536), u32B (ref * 256 + count), arrsL arrs] : List (List UInt8)).flatten := ⟨_, rfl⟩
    rw [← hfl] at hs3 hc3 ⊢
    have HFLAT := Lib.hid hfl
    clear hfl
    try clear hHeld
    refine hK.out _ _ (HSS.out J2 _ (hle.trans hle2) hs3.drop) (fun hHeld => ?_)
    clear hK K
    try simp only [Act.put, List.getElem_toArray, List.getElem_cons_zero, List.getElem_cons_succ, List.setIfInBounds_toArray, List.set_cons_zero, List.set_cons_succ]
    refine wpAnyH_take (i := 27) (oi := _) (v := ?_) rfl (by kernel_rfl) (by kernel_rfl) (by kernel_rfl) (fun _ _ _ h => h) (Or.inl ⟨by rfl, ?_⟩) (by assumption) ?_
    rotate_left
    · (intro w hSw; (try dsimp only at hSw); go_simp; try with_reducible rfl)
    try simp only [Act.put, List.getElem_toArray, List.getElem_cons_zero, List.getElem_cons_succ, List.setIfInBounds_toArray, List.set_cons_zero, List.set_cons_succ]
    refine wpAnyH_done (by kernel_rfl) ?_ _
    have hbq : fl = B := by rw [HFLAT.out, HBE.out]; exact body6 HGD.out HOK.out n4
    subst hbq
    have HS := Lib.hid hs3
    have HLE := Lib.hid (hle.trans hle2)
    clear hs hs2 hs3 hHeld hle hle2 hcs hobj HFLAT
    generalize A3 = A4 at *
    go_upto_region 36 with fail
    go_loopw [3] (fun bv wr => ∃ (A : Option Addr) (n c : Nat), bv = .slice A n c ∧ n ≤ 4000 ∧ Hid (∃ (j : Nat) (J : Img), n = fl.length + j ∧ j ≤ (4 - fl.length % 4) % 4 ∧ I.le J ∧ St J (row 5 1 (.slice A n c) n (bvs (fl ++ List.replicate j 0)) :: bk q 56 #[.int .i64 6, .int .u32 sender, .int .u32 media, .int .u64 ntp, .int .u32 rtp, .int .u32 pkts, .int .u32 octs, .slice rA reps.length rz, .string name, .slice sA srcs.length sz, .slice qA seqs.length qz, .int .u16 base, .int .u32 ref, .int .u8 count, .slice aA arrs.length az, .slice wA wants.length wz] :: M) wr)) (fun bv _ => (4 - sliceLen bv % 4) % 4)
    case atStart => exact ⟨_, _, _, rfl, by omega, Lib.hid ⟨0, J2, rfl, Nat.zero_le _, HLE.out, by simpa using HS.out⟩⟩
    case round =>
      obtain ⟨A, n, c, rfl, hn, hh⟩ := hrel
      obtain ⟨j, J, hnj, hj, hle, hs⟩ := hh.out
      clear hh HS HLE
      have hln : (fl ++ List.replicate j 0).length = n := by rw [hnj]; simp
      have HLN := Lib.hid hln
      have HRP := Lib.hid (rep_snoc j)
      have HNJ := Lib.hid hnj
      by_cases hlt : j < (4 - fl.length % 4) % 4
      · have hm : ((n : Int) % 4 != 0) = true := by rw [bne_iff_ne]; omega
        obtain ⟨J3, hle3, hs3, hobj⟩ := (hs.alloc 5 #[.int .u8 0]).freezeBlk
        have HB1 := Lib.hid (show RoB [0] (.slice (some ⟨wr.heap.size, 0, none⟩) 1 1) J3 from ⟨_, 1, rfl, Byts.ofBlk hobj rfl⟩)
        obtain ⟨bl, hbe⟩ : ∃ bl, bl = fl ++ List.replicate j 0 := ⟨_, rfl⟩
        rw [← hbe] at hs3 hln
        rw [← hln] at hs3
        have HBL := Lib.hid hbe
        have HS3 := Lib.hid hs3
        have HLE := Lib.hid (hle.trans hle3)
        have HLT := Lib.hid hlt
        have HLL := Lib.hid hln
        clear hbe hle hle3 hs hs3 hobj hnj hj hln hlt
        go_wp2_with (at_builtin; refine wpList_appB rfl _ _ rfl J3 _ _ _ _ _ (by rw [HLL.out]; rfl) rfl HS3.out HB1.out (by have := HLL.out; simp only [List.length_cons, List.length_nil]; omega) ?_)
        intro v3 w3 hs4
        obtain ⟨A5, c5, rfl⟩ := own_form (show World.ownsRow _ 0 5 1 v3 _ _ from St.at hs4 0 rfl)
        have hl5 : (bl ++ [0]).length = n + 1 := by rw [List.length_append, HLL.out]; rfl
        have hs5 := show St J3 _ w3 from hs4
        rw [hl5] at hs5 ⊢
        have HS5 := Lib.hid hs5
        clear hs4 hs5 HS3 HB1 hl5
        go_wp2
        go_roundw
        case rel =>
          refine ⟨A5, n + 1, c5, rfl, by have := HLT.out; have := HNJ.out; omega, Lib.hid ⟨j + 1, J3, by have := HNJ.out; omega, by have := HLT.out; omega, HLE.out, ?_⟩⟩
          have := HS5.out
          rw [HBL.out, List.append_assoc, ← HRP.out] at this
          exact this
        case measure =>
          have h1 := HNJ.out
          have h2 := HLT.out
          show (4 - (n + 1) % 4) % 4 < (4 - n % 4) % 4
          omega
      · have hm : ((n : Int) % 4 != 0) = false := by rw [bne_eq_false_iff_eq]; omega
        have hjj : j = (4 - fl.length % 4) % 4 := by omega
        rw [hjj, even_rep] at hs hln
        obtain ⟨E, hE⟩ : ∃ E, E = evenL fl := ⟨_, rfl⟩
        rw [← hE] at hs hln
        have HE := Lib.hid hE
        obtain ⟨J3, hle3, hs3, hb3⟩ := hs.freezeRow
        have HS3 := Lib.hid hs3
        have HB3 := Lib.hid (show Byts J3 A E from hb3)
        have HLE := Lib.hid (hle.trans hle3)
        have HLL := Lib.hid hln
        clear hs hs3 hb3 hle hle3 hE hln hnj hj hjj hlt
        have HV := Lib.hid (show [byteOf (143), byteOf 205] ++ u16B ((E.length / 4 : Nat) : Int) ++ E = packB (⟨6, sender, media, ntp, rtp, pkts, octs, reps, name, srcs, seqs, base, ref, count, arrs, wants⟩ : Pk) by
          have e1 : 128 + low = 143 := by rw [HLE0.out]; rfl
          rw [← e1, HLE0.out, HE.out, HBE.out]
          rfl)
        obtain ⟨J4, hle4, hs4, hobj⟩ := (HS3.out.alloc 5 #[.int .u8 (143), .int .u8 205]).freezeBlk
        have HB4 := Lib.hid (show Byts J4 (some ⟨wr.heap.size, 0, none⟩) [byteOf (143), byteOf 205] from Byts.ofBlk hobj (lit_two (by omega) (by omega)))
        have HT := Lib.hid (twoR J4 _ _ ((n : Int) / 4) hs4)
        have HLE4 := Lib.hid hle4
        clear hle4 hs4 hobj HS3
        go_wp2_with fail
        go_at_call 39
        refine HT.out.mono ?_
        clear HT
        rintro e w2 ⟨_, _, _, rfl, _, hs1, rfl, A6, c6, rfl, hc6, rfl⟩
        obtain ⟨J5, hle5, hs5, hb5⟩ := hs1.freezeRow
        have hb5 : Byts J5 A6 (u16B ((n : Int) / 4 % 65536)) := hb5
        obtain ⟨J6, hle6, hs6, hobj⟩ := (hs5.alloc 24 #[.slice (some ⟨wr.heap.size, 0, none⟩) 2 2, .slice A6 (u16B ((n : Int) / 4 % 65536)).length c6, .slice A n c]).freezeBlk
        have hcs := Cells.ofBlk hobj
        have HJ := Lib.hid (joinR J6 (bk q 56 #[.int .i64 6, .int .u32 sender, .int .u32 media, .int .u64 ntp, .int .u32 rtp, .int .u32 pkts, .int .u32 octs, .slice rA reps.length rz, .string name, .slice sA srcs.length sz, .slice qA seqs.length qz, .int .u16 base, .int .u32 ref, .int .u8 count, .slice aA arrs.length az, .slice wA wants.length wz] :: M) _ (some ⟨w2.heap.size, 0, none⟩) 3 [[byteOf (143), byteOf 205], u16B ((n : Int) / 4 % 65536), E] [.slice (some ⟨wr.heap.size, 0, none⟩) 2 2, .slice A6 (u16B ((n : Int) / 4 % 65536)).length c6, .slice A n c] hcs ⟨⟨_, 2, rfl, (HB4.out.mono hle5).mono hle6⟩, ⟨A6, c6, rfl, hb5.mono hle6⟩, ⟨A, c, by rw [HLL.out], ((HB3.out.mono HLE4.out).mono hle5).mono hle6⟩, trivial⟩ (by simp) (by have := HLL.out; simp only [List.flatten_cons, List.flatten_nil, List.length_append, List.length_cons, List.length_nil, u16B_len]; omega) hs6)
        have HL := Lib.hid (((HLE.out.trans HLE4.out).trans hle5).trans hle6)
        clear hs1 hs5 hs6 hb5 hc6 hobj hcs hle5 hle6 HB3 HB4
        go_wp2_with fail
        go_at_call 35
        refine HJ.out.mono ?_
        clear HJ
        rintro e w4 ⟨_, _, _, rfl, _, hs7, rfl, A7, c7, rfl, hc7, rfl⟩
        have HPE := Lib.hid (show ([[byteOf (143), byteOf 205], u16B ((n : Int) / 4 % 65536), E] : List (List UInt8)).flatten = packB (⟨6, sender, media, ntp, rtp, pkts, octs, reps, name, srcs, seqs, base, ref, count, arrs, wants⟩ : Pk) by
          rw [← HV.out, HLL.out]
          have e2 : (n : Int) / 4 % 65536 = ((n / 4 : Nat) : Int) := by omega
          rw [e2]
          simp)
        rw [HPE.out] at hs7 hc7 ⊢
        have HF := Lib.hid (show Bui I M (⟨6, sender, media, ntp, rtp, pkts, octs, reps, name, srcs, seqs, base, ref, count, arrs, wants⟩ : Pk) (.returned _) w4 from Ret.mk HL.out (St.swap1 hs7).drop ⟨A7, c7, rfl, rfl⟩)
        clear hs7 hc7 HPE HV
        generalize packB (⟨6, sender, media, ntp, rtp, pkts, octs, reps, name, srcs, seqs, base, ref, count, arrs, wants⟩ : Pk) = pbs at *
        go_wp2
        go_returns
        exact HF.out
end Go.Proofs.Ytddopbbmgpnjjaa
namespace Go.Proofs.Ytddopbbmgpnjjaa
open Go.RowKit
set_option linter.unusedSimpArgs false

set_option maxRecDepth 100000 in
set_option maxHeartbeats 40000000 in
theorem build7 (I : Img) (M : List Res) (w : World) (sender : Int) (media : Int) (ntp : Int) (rtp : Int) (pkts : Int) (octs : Int) (base : Int) (ref : Int) (count : Int) (name : ByteArray) (reps : List Rp) (srcs seqs arrs : List Int) (wants : List Wn) (rA : Option Addr) (rz : Nat) (sA : Option Addr) (sz : Nat) (qA : Option Addr) (qz : Nat) (aA : Option Addr) (az : Nat) (wA : Option Addr) (wz : Nat) (cr : Cells I rA (flat repC reps)) (cs : Cells I sA (flat u32C srcs)) (cq : Cells I qA (flat u16C seqs)) (ca : Cells I aA (flat intC arrs)) (cw : Cells I wA (flat wnC wants)) (hok : PkOk (⟨7, sender, media, ntp, rtp, pkts, octs, reps, name, srcs, seqs, base, ref, count, arrs, wants⟩ : Pk)) (hg : Good (⟨7, sender, media, ntp, rtp, pkts, octs, reps, name, srcs, seqs, base, ref, count, arrs, wants⟩ : Pk)) (hst : St I M w) :
    Calls Try.prog 18 #[.agg #[.int .i64 7, .int .u32 sender, .int .u32 media, .int .u64 ntp, .int .u32 rtp, .int .u32 pkts, .int .u32 octs, .slice rA reps.length rz, .string name, .slice sA srcs.length sz, .slice qA seqs.length qz, .int .u16 base, .int .u32 ref, .int .u8 count, .slice aA arrs.length az, .slice wA wants.length wz]] w (Bui I M (⟨7, sender, media, ntp, rtp, pkts, octs, reps, name, srcs, seqs, base, ref, count, arrs, wants⟩ : Pk)) := by
  have hs1 := hst.alloc 56 #[.int .i64 7, .int .u32 sender, .int .u32 media, .int .u64 ntp, .int .u32 rtp, .int .u32 pkts, .int .u32 octs, .slice rA reps.length rz, .string name, .slice sA srcs.length sz, .slice qA seqs.length qz, .int .u16 base, .int .u32 ref, .int .u8 count, .slice aA arrs.length az, .slice wA wants.length wz]
  have HOK := Lib.hid hok
  have HGD := Lib.hid hg
  have hbl := body_len hg
  obtain ⟨n1, n2, n3, n4, n5, n6⟩ := good_lens hg
  have HLOW := Lib.hid (lowP_ok hg)
  simp only [] at n1 n2 n3 n4 n5 n6
  have HCR := Lib.hid cr
  have HCS := Lib.hid cs
  have HCW := Lib.hid cw
  have HCQ := Lib.hid cq
  have HCA := Lib.hid ca
  clear cr cs cq ca cw hok hg hst
  obtain ⟨B, hB⟩ : ∃ B, B = bodyL (⟨7, sender, media, ntp, rtp, pkts, octs, reps, name, srcs, seqs, base, ref, count, arrs, wants⟩ : Pk) := ⟨_, rfl⟩
  rw [← hB] at hbl
  obtain ⟨low, hlow⟩ : ∃ low, low = lowP (⟨7, sender, media, ntp, rtp, pkts, octs, reps, name, srcs, seqs, base, ref, count, arrs, wants⟩ : Pk) := ⟨_, rfl⟩
  obtain ⟨q, hq⟩ : ∃ q, q = w.heap.size := ⟨_, rfl⟩
  rw [← hq] at hs1
  have HBE := Lib.hid hB
  have HLE0 := Lib.hid hlow
  clear hB hlow
  go_enter Try.func18, Try.ntmps18
  go_upto_region 1 with fail
  rw [← hq]
  clear hq
  generalize World.alloc w _ = W at hs1 ⊢
  obtain ⟨hc1, hf1, hl1⟩ := Blk.all (hs1.at 0 rfl)
  have HST := Lib.hid hs1
  clear hs1
  go_upto_region 35 with fail
  clear hc1 hf1 hl1
  have HSS := Lib.hid (fun (J : Img) (w' : World) (_ : I.le J) (hs : St J (bk q 56 #[.int .i64 7, .int .u32 sender, .int .u32 media, .int .u64 ntp, .int .u32 rtp, .int .u32 pkts, .int .u32 octs, .slice rA reps.length rz, .string name, .slice sA srcs.length sz, .slice qA seqs.length qz, .int .u16 base, .int .u32 ref, .int .u8 count, .slice aA arrs.length az, .slice wA wants.length wz] :: M) w') => (show ∀ i, w'.cell? ⟨q, i, none⟩ = (#[.int .i64 7, .int .u32 sender, .int .u32 media, .int .u64 ntp, .int .u32 rtp, .int .u32 pkts, .int .u32 octs, .slice rA reps.length rz, .string name, .slice sA srcs.length sz, .slice qA seqs.length qz, .int .u16 base, .int .u32 ref, .int .u8 count, .slice aA arrs.length az, .slice wA wants.length wz] : Array Value)[i]? from (Blk.all (hs.at 0 rfl)).1))
  have HLB := Lib.hid (show 0 ≤ 1 from by omega)
  refine wp_region_held_drew (S := fun w' => ∀ i, w'.cell? ⟨q, i, none⟩ = (#[.int .i64 7, .int .u32 sender, .int .u32 media, .int .u64 ntp, .int .u32 rtp, .int .u32 pkts, .int .u32 octs, .slice rA reps.length rz, .string name, .slice sA srcs.length sz, .slice qA seqs.length qz, .int .u16 base, .int .u32 ref, .int .u8 count, .slice aA arrs.length az, .slice wA wants.length wz] : Array Value)[i]?) (by kernel_rfl) (HSS.out _ _ (.refl _) HST.out.drew) (fun hHeld => ?_)
  refine wpAnyH_take (i := 0) (oi := _) (v := ?_) rfl (by kernel_rfl) (by kernel_rfl) (by kernel_rfl) (fun _ _ _ h => h) (Or.inl ⟨by rfl, ?_⟩) (by assumption) ?_
  rotate_left
  · (intro w hSw; (try dsimp only at hSw); go_simp; try with_reducible rfl)
  try simp only [Act.put, List.getElem_toArray, List.getElem_cons_zero, List.getElem_cons_succ, List.setIfInBounds_toArray, List.set_cons_zero, List.set_cons_succ]
  refine wpAnyH_take (i := 1) (oi := _) (v := ?_) rfl (by kernel_rfl) (by kernel_rfl) (by kernel_rfl) (fun _ _ _ h => h) (Or.inl ⟨by rfl, ?_⟩) (by assumption) ?_
  rotate_left
  · (intro w hSw; (try dsimp only at hSw); go_simp; try with_reducible rfl)
  try simp only [Act.put, List.getElem_toArray, List.getElem_cons_zero, List.getElem_cons_succ, List.setIfInBounds_toArray, List.set_cons_zero, List.set_cons_succ]
  refine wpAnyH_take (i := 3) (oi := _) (v := ?_) rfl (by kernel_rfl) (by kernel_rfl) (by kernel_rfl) (fun _ _ _ h => h) (Or.inl ⟨by rfl, ?_⟩) (by assumption) ?_
  rotate_left
  · (intro w hSw; (try dsimp only at hSw); go_simp; try with_reducible rfl)
  try simp only [Act.put, List.getElem_toArray, List.getElem_cons_zero, List.getElem_cons_succ, List.setIfInBounds_toArray, List.set_cons_zero, List.set_cons_succ]
  refine wpAnyH_take (i := 4) (oi := _) (v := ?_) rfl (by kernel_rfl) (by kernel_rfl) (by kernel_rfl) (fun _ _ _ h => h) (Or.inl ⟨by rfl, ?_⟩) (by assumption) ?_
  rotate_left
  · (intro w hSw; (try dsimp only at hSw); go_simp; try with_reducible rfl)
  try simp only [Act.put, List.getElem_toArray, List.getElem_cons_zero, List.getElem_cons_succ, List.setIfInBounds_toArray, List.set_cons_zero, List.set_cons_succ]
  refine anyH_ro (I := I) (M := bk q 56 #[.int .i64 7, .int .u32 sender, .int .u32 media, .int .u64 ntp, .int .u32 rtp, .int .u32 pkts, .int .u32 octs, .slice rA reps.length rz, .string name, .slice sA srcs.length sz, .slice qA seqs.length qz, .int .u16 base, .int .u32 ref, .int .u8 count, .slice aA arrs.length az, .slice wA wants.length wz] :: M) (l := [(2, 168, u32B sender), (5, 171, u32B media)]) 3 (by kernel_rfl) (by simp only [List.map_cons, List.map_nil]; decide) (by simp only [List.map_cons, List.map_nil]; decide) HSS.out HST.out.drew ?_ ?_
  · refine List.forall_mem_cons.2 ⟨?_, List.forall_mem_cons.2 ⟨?_, fun _ h => by cases h⟩⟩
    · refine CdStep.call (o := _) rfl rfl rfl rfl (fun _ _ => rfl) ?_ (fun J w hle hs => (four_frz J _ w (sender) (HOK.out.sender) hs).mono (fun _ _ h => h))
      intro xf; simp [Act.over, setAll, Act.eval]
    · refine CdStep.call (o := _) rfl rfl rfl rfl (fun _ _ => rfl) ?_ (fun J w hle hs => (four_frz J _ w (media) (HOK.out.media) hs).mono (fun _ _ h => h))
      intro xf; simp [Act.over, setAll, Act.eval]
  · intro xf J w hle hs hx
    have r0 : RoB (u32B sender) (xf 168) J := hx (2, 168, u32B sender) (by simp)
    have r1 : RoB (u32B media) (xf 171) J := hx (5, 171, u32B media) (by simp)
    simp only [List.map_cons, List.map_nil, Act.over, setAll, List.foldl_cons, List.foldl_nil, List.setIfInBounds_toArray, List.set_cons_zero, List.set_cons_succ]
    generalize xf 168 = v168 at *
    obtain ⟨A168, c168, rfl, b168⟩ := r0
    generalize xf 171 = v171 at *
    obtain ⟨A171, c171, rfl, b171⟩ := r1
    clear hx
    refine wpAnyH_ready (rs := [6]) (by kernel_rfl) (by simp) ?_
    refine AllReadyH.cons (o := _) rfl (fun K hK => ?_) AllReadyH.nil
    go_simp
    try clear hHeld
    refine hK.out _ _ (HSS.out J _ hle (hs.grow _)) (fun hHeld => ?_)
    clear hK K
    try simp only [Act.put, List.getElem_toArray, List.getElem_cons_zero, List.getElem_cons_succ, List.setIfInBounds_toArray, List.set_cons_zero, List.set_cons_succ]
    obtain ⟨J2, hle2, hs2, hobj⟩ := (hs.alloc 24 #[.slice A168 (u32B sender).length c168, .slice A171 (u32B media).length c171]).freezeBlk
    have hcs := Cells.ofBlk hobj
    refine wpAnyH_ready (rs := [7]) (by kernel_rfl) (by simp) ?_
    refine AllReadyH.cons (o := _) rfl (fun K hK => ?_) AllReadyH.nil
    go_simp
    go_at_call 35
    refine (joinR J2 (bk q 56 #[.int .i64 7, .int .u32 sender, .int .u32 media, .int .u64 ntp, .int .u32 rtp, .int .u32 pkts, .int .u32 octs, .slice rA reps.length rz, .string name, .slice sA srcs.length sz, .slice qA seqs.length qz, .int .u16 base, .int .u32 ref, .int .u8 count, .slice aA arrs.length az, .slice wA wants.length wz] :: M) _ (some ⟨w.heap.size, 0, none⟩) 2 [u32B sender, u32B media] [.slice A168 (u32B sender).length c168, .slice A171 (u32B media).length c171] hcs ⟨⟨A168, c168, rfl, b168.mono hle2⟩, ⟨A171, c171, rfl, b171.mono hle2⟩, trivial⟩ (by simp) (by have := HLB.out; simp only [List.flatten_cons, List.flatten_nil, List.length_append, List.length_cons, List.length_nil, u32B_len, u16B_len]; omega) hs2).mono ?_
    rintro e w3 ⟨_, _, _, rfl, _, hs3, rfl, A3, c3, rfl, hc3, rfl⟩
    obtain ⟨fl, hfl⟩ : ∃ z : List UInt8, z = ([u32B sender, u32B media] : List (List UInt8)).flatten := ⟨_, rfl⟩
    rw [← hfl] at hs3 hc3 ⊢
    have HFLAT := Lib.hid hfl
    clear hfl
    try clear hHeld
    refine hK.out _ _ (HSS.out J2 _ (hle.trans hle2) hs3.drop) (fun hHeld => ?_)
    clear hK K
    try simp only [Act.put, List.getElem_toArray, List.getElem_cons_zero, List.getElem_cons_succ, List.setIfInBounds_toArray, List.set_cons_zero, List.set_cons_succ]
    refine wpAnyH_take (i := 8) (oi := _) (v := ?_) rfl (by kernel_rfl) (by kernel_rfl) (by kernel_rfl) (fun _ _ _ h => h) (Or.inl ⟨by rfl, ?_⟩) (by assumption) ?_
    rotate_left
    · (intro w hSw; (try dsimp only at hSw); go_simp; try with_reducible rfl)
    try simp only [Act.put, List.getElem_toArray, List.getElem_cons_zero, List.getElem_cons_succ, List.setIfInBounds_toArray, List.set_cons_zero, List.set_cons_succ]
    refine wpAnyH_done (by kernel_rfl) ?_ _
    have hbq : fl = B := by rw [HFLAT.out, HBE.out]; exact body7 HGD.out
    subst hbq
    have HS := Lib.hid hs3
    have HLE := Lib.hid (hle.trans hle2)
    clear hs hs2 hs3 hHeld hle hle2 hcs hobj HFLAT
    generalize A3 = A4 at *
    go_upto_region 36 with fail
    go_loopw [3] (fun bv wr => ∃ (A : Option Addr) (n c : Nat), bv = .slice A n c ∧ n ≤ 4000 ∧ Hid (∃ (j : Nat) (J : Img), n = fl.length + j ∧ j ≤ (4 - fl.length % 4) % 4 ∧ I.le J ∧ St J (row 5 1 (.slice A n c) n (bvs (fl ++ List.replicate j 0)) :: bk q 56 #[.int .i64 7, .int .u32 sender, .int .u32 media, .int .u64 ntp, .int .u32 rtp, .int .u32 pkts, .int .u32 octs, .slice rA reps.length rz, .string name, .slice sA srcs.length sz, .slice qA seqs.length qz, .int .u16 base, .int .u32 ref, .int .u8 count, .slice aA arrs.length az, .slice wA wants.length wz] :: M) wr)) (fun bv _ => (4 - sliceLen bv % 4) % 4)
    case atStart => exact ⟨_, _, _, rfl, by omega, Lib.hid ⟨0, J2, rfl, Nat.zero_le _, HLE.out, by simpa using HS.out⟩⟩
    case round =>
      obtain ⟨A, n, c, rfl, hn, hh⟩ := hrel
      obtain ⟨j, J, hnj, hj, hle, hs⟩ := hh.out
      clear hh HS HLE
      have hln : (fl ++ List.replicate j 0).length = n := by rw [hnj]; simp
      have HLN := Lib.hid hln
      have HRP := Lib.hid (rep_snoc j)
      have HNJ := Lib.hid hnj
      by_cases hlt : j < (4 - fl.length % 4) % 4
      · have hm : ((n : Int) % 4 != 0) = true := by rw [bne_iff_ne]; omega
        obtain ⟨J3, hle3, hs3, hobj⟩ := (hs.alloc 5 #[.int .u8 0]).freezeBlk
        have HB1 := Lib.hid (show RoB [0] (.slice (some ⟨wr.heap.size, 0, none⟩) 1 1) J3 from ⟨_, 1, rfl, Byts.ofBlk hobj rfl⟩)
        obtain ⟨bl, hbe⟩ : ∃ bl, bl = fl ++ List.replicate j 0 := ⟨_, rfl⟩
        rw [← hbe] at hs3 hln
        rw [← hln] at hs3
        have HBL := Lib.hid hbe
        have HS3 := Lib.hid hs3
        have HLE := Lib.hid (hle.trans hle3)
        have HLT := Lib.hid hlt
        have HLL := Lib.hid hln
        clear hbe hle hle3 hs hs3 hobj hnj hj hln hlt
        go_wp2_with (at_builtin; refine wpList_appB rfl _ _ rfl J3 _ _ _ _ _ (by rw [HLL.out]; rfl) rfl HS3.out HB1.out (by have := HLL.out; simp only [List.length_cons, List.length_nil]; omega) ?_)
        intro v3 w3 hs4
        obtain ⟨A5, c5, rfl⟩ := own_form (show World.ownsRow _ 0 5 1 v3 _ _ from St.at hs4 0 rfl)
        have hl5 : (bl ++ [0]).length = n + 1 := by rw [List.length_append, HLL.out]; rfl
        have hs5 := show St J3 _ w3 from hs4
        rw [hl5] at hs5 ⊢
        have HS5 := Lib.hid hs5
        clear hs4 hs5 HS3 HB1 hl5
        go_wp2
        go_roundw
        case rel =>
          refine ⟨A5, n + 1, c5, rfl, by have := HLT.out; have := HNJ.out; omega, Lib.hid ⟨j + 1, J3, by have := HNJ.out; omega, by have := HLT.out; omega, HLE.out, ?_⟩⟩
          have := HS5.out
          rw [HBL.out, List.append_assoc, ← HRP.out] at this
          exact this
        case measure =>
          have h1 := HNJ.out
          have h2 := HLT.out
          show (4 - (n + 1) % 4) % 4 < (4 - n % 4) % 4
          omega
      · have hm : ((n : Int) % 4 != 0) = false := by rw [bne_eq_false_iff_eq]; omega
        have hjj : j = (4 - fl.length % 4) % 4 := by omega
        rw [hjj, even_rep] at hs hln
        obtain ⟨E, hE⟩ : ∃ E, E = evenL fl := ⟨_, rfl⟩
        rw [← hE] at hs hln
        have HE := Lib.hid hE
        obtain ⟨J3, hle3, hs3, hb3⟩ := hs.freezeRow
        have HS3 := Lib.hid hs3
        have HB3 := Lib.hid (show Byts J3 A E from hb3)
        have HLE := Lib.hid (hle.trans hle3)
        have HLL := Lib.hid hln
        clear hs hs3 hb3 hle hle3 hE hln hnj hj hjj hlt
        have HV := Lib.hid (show [byteOf (129), byteOf 206] ++ u16B ((E.length / 4 : Nat) : Int) ++ E = packB (⟨7, sender, media, ntp, rtp, pkts, octs, reps, name, srcs, seqs, base, ref, count, arrs, wants⟩ : Pk) by
          have e1 : 128 + low = 129 := by rw [HLE0.out]; rfl
          rw [← e1, HLE0.out, HE.out, HBE.out]
          rfl)
        obtain ⟨J4, hle4, hs4, hobj⟩ := (HS3.out.alloc 5 #[.int .u8 (129), .int .u8 206]).freezeBlk
        have HB4 := Lib.hid (show Byts J4 (some ⟨wr.heap.size, 0, none⟩) [byteOf (129), byteOf 206] from Byts.ofBlk hobj (lit_two (by omega) (by omega)))
        have HT := Lib.hid (twoR J4 _ _ ((n : Int) / 4) hs4)
        have HLE4 := Lib.hid hle4
        clear hle4 hs4 hobj HS3
        go_wp2_with fail
        go_at_call 39
        refine HT.out.mono ?_
        clear HT
        rintro e w2 ⟨_, _, _, rfl, _, hs1, rfl, A6, c6, rfl, hc6, rfl⟩
        obtain ⟨J5, hle5, hs5, hb5⟩ := hs1.freezeRow
        have hb5 : Byts J5 A6 (u16B ((n : Int) / 4 % 65536)) := hb5
        obtain ⟨J6, hle6, hs6, hobj⟩ := (hs5.alloc 24 #[.slice (some ⟨wr.heap.size, 0, none⟩) 2 2, .slice A6 (u16B ((n : Int) / 4 % 65536)).length c6, .slice A n c]).freezeBlk
        have hcs := Cells.ofBlk hobj
        have HJ := Lib.hid (joinR J6 (bk q 56 #[.int .i64 7, .int .u32 sender, .int .u32 media, .int .u64 ntp, .int .u32 rtp, .int .u32 pkts, .int .u32 octs, .slice rA reps.length rz, .string name, .slice sA srcs.length sz, .slice qA seqs.length qz, .int .u16 base, .int .u32 ref, .int .u8 count, .slice aA arrs.length az, .slice wA wants.length wz] :: M) _ (some ⟨w2.heap.size, 0, none⟩) 3 [[byteOf (129), byteOf 206], u16B ((n : Int) / 4 % 65536), E] [.slice (some ⟨wr.heap.size, 0, none⟩) 2 2, .slice A6 (u16B ((n : Int) / 4 % 65536)).length c6, .slice A n c] hcs ⟨⟨_, 2, rfl, (HB4.out.mono hle5).mono hle6⟩, ⟨A6, c6, rfl, hb5.mono hle6⟩, ⟨A, c, by rw [HLL.out], ((HB3.out.mono HLE4.out).mono hle5).mono hle6⟩, trivial⟩ (by simp) (by have := HLL.out; simp only [List.flatten_cons, List.flatten_nil, List.length_append, List.length_cons, List.length_nil, u16B_len]; omega) hs6)
        have HL := Lib.hid (((HLE.out.trans HLE4.out).trans hle5).trans hle6)
        clear hs1 hs5 hs6 hb5 hc6 hobj hcs hle5 hle6 HB3 HB4
        go_wp2_with fail
        go_at_call 35
        refine HJ.out.mono ?_
        clear HJ
        rintro e w4 ⟨_, _, _, rfl, _, hs7, rfl, A7, c7, rfl, hc7, rfl⟩
        have HPE := Lib.hid (show ([[byteOf (129), byteOf 206], u16B ((n : Int) / 4 % 65536), E] : List (List UInt8)).flatten = packB (⟨7, sender, media, ntp, rtp, pkts, octs, reps, name, srcs, seqs, base, ref, count, arrs, wants⟩ : Pk) by
          rw [← HV.out, HLL.out]
          have e2 : (n : Int) / 4 % 65536 = ((n / 4 : Nat) : Int) := by omega
          rw [e2]
          simp)
        rw [HPE.out] at hs7 hc7 ⊢
        have HF := Lib.hid (show Bui I M (⟨7, sender, media, ntp, rtp, pkts, octs, reps, name, srcs, seqs, base, ref, count, arrs, wants⟩ : Pk) (.returned _) w4 from Ret.mk HL.out (St.swap1 hs7).drop ⟨A7, c7, rfl, rfl⟩)
        clear hs7 hc7 HPE HV
        generalize packB (⟨7, sender, media, ntp, rtp, pkts, octs, reps, name, srcs, seqs, base, ref, count, arrs, wants⟩ : Pk) = pbs at *
        go_wp2
        go_returns
        exact HF.out
end Go.Proofs.Ytddopbbmgpnjjaa
namespace Go.Proofs.Ytddopbbmgpnjjaa
open Go.RowKit
set_option linter.unusedSimpArgs false

set_option maxRecDepth 100000 in
set_option maxHeartbeats 40000000 in
theorem build8 (I : Img) (M : List Res) (w : World) (sender : Int) (media : Int) (ntp : Int) (rtp : Int) (pkts : Int) (octs : Int) (base : Int) (ref : Int) (count : Int) (name : ByteArray) (reps : List Rp) (srcs seqs arrs : List Int) (wants : List Wn) (rA : Option Addr) (rz : Nat) (sA : Option Addr) (sz : Nat) (qA : Option Addr) (qz : Nat) (aA : Option Addr) (az : Nat) (wA : Option Addr) (wz : Nat) (cr : Cells I rA (flat repC reps)) (cs : Cells I sA (flat u32C srcs)) (cq : Cells I qA (flat u16C seqs)) (ca : Cells I aA (flat intC arrs)) (cw : Cells I wA (flat wnC wants)) (hok : PkOk (⟨8, sender, media, ntp, rtp, pkts, octs, reps, name, srcs, seqs, base, ref, count, arrs, wants⟩ : Pk)) (hg : Good (⟨8, sender, media, ntp, rtp, pkts, octs, reps, name, srcs, seqs, base, ref, count, arrs, wants⟩ : Pk)) (hst : St I M w) :
    Calls Try.prog 18 #[.agg #[.int .i64 8, .int .u32 sender, .int .u32 media, .int .u64 ntp, .int .u32 rtp, .int .u32 pkts, .int .u32 octs, .slice rA reps.length rz, .string name, .slice sA srcs.length sz, .slice qA seqs.length qz, .int .u16 base, .int .u32 ref, .int .u8 count, .slice aA arrs.length az, .slice wA wants.length wz]] w (Bui I M (⟨8, sender, media, ntp, rtp, pkts, octs, reps, name, srcs, seqs, base, ref, count, arrs, wants⟩ : Pk)) := by
  have hwl : 1 ≤ wants.length := by rcases hg.1 with h | h | h | h | h | h | h <;> simp at h; exact h.1
  obtain ⟨g, o, rfl, hcellw⟩ := flat_get (s := 2) (fun _ => rfl) cw (by omega) (by decide)
  have HCELL := Lib.hid hcellw
  clear hcellw
  have hs1 := hst.alloc 56 #[.int .i64 8, .int .u32 sender, .int .u32 media, .int .u64 ntp, .int .u32 rtp, .int .u32 pkts, .int .u32 octs, .slice rA reps.length rz, .string name, .slice sA srcs.length sz, .slice qA seqs.length qz, .int .u16 base, .int .u32 ref, .int .u8 count, .slice aA arrs.length az, .slice (some ⟨g, o, none⟩) wants.length wz]
  have HOK := Lib.hid hok
  have HGD := Lib.hid hg
  have hbl := body_len hg
  obtain ⟨n1, n2, n3, n4, n5, n6⟩ := good_lens hg
  have HLOW := Lib.hid (lowP_ok hg)
  simp only [] at n1 n2 n3 n4 n5 n6
  have HCR := Lib.hid cr
  have HCS := Lib.hid cs
  have HCW := Lib.hid True.intro
  have HCQ := Lib.hid cq
  have HCA := Lib.hid ca
  clear cr cs cq ca cw hok hg hst
  obtain ⟨B, hB⟩ : ∃ B, B = bodyL (⟨8, sender, media, ntp, rtp, pkts, octs, reps, name, srcs, seqs, base, ref, count, arrs, wants⟩ : Pk) := ⟨_, rfl⟩
  rw [← hB] at hbl
  obtain ⟨low, hlow⟩ : ∃ low, low = lowP (⟨8, sender, media, ntp, rtp, pkts, octs, reps, name, srcs, seqs, base, ref, count, arrs, wants⟩ : Pk) := ⟨_, rfl⟩
  obtain ⟨q, hq⟩ : ∃ q, q = w.heap.size := ⟨_, rfl⟩
  rw [← hq] at hs1
  have HBE := Lib.hid hB
  have HLE0 := Lib.hid hlow
  clear hB hlow
  go_enter Try.func18, Try.ntmps18
  go_upto_region 1 with fail
  rw [← hq]
  clear hq
  generalize World.alloc w _ = W at hs1 ⊢
  obtain ⟨hc1, hf1, hl1⟩ := Blk.all (hs1.at 0 rfl)
  have HST := Lib.hid hs1
  clear hs1
  go_upto_region 5 with fail
  clear hc1 hf1 hl1
  have HSS := Lib.hid (fun (J : Img) (w' : World) (_ : I.le J) (hs : St J (bk q 56 #[.int .i64 8, .int .u32 sender, .int .u32 media, .int .u64 ntp, .int .u32 rtp, .int .u32 pkts, .int .u32 octs, .slice rA reps.length rz, .string name, .slice sA srcs.length sz, .slice qA seqs.length qz, .int .u16 base, .int .u32 ref, .int .u8 count, .slice aA arrs.length az, .slice (some ⟨g, o, none⟩) wants.length wz] :: M) w') => (show ∀ i, w'.cell? ⟨q, i, none⟩ = (#[.int .i64 8, .int .u32 sender, .int .u32 media, .int .u64 ntp, .int .u32 rtp, .int .u32 pkts, .int .u32 octs, .slice rA reps.length rz, .string name, .slice sA srcs.length sz, .slice qA seqs.length qz, .int .u16 base, .int .u32 ref, .int .u8 count, .slice aA arrs.length az, .slice (some ⟨g, o, none⟩) wants.length wz] : Array Value)[i]? from (Blk.all (hs.at 0 rfl)).1))
  have HLB := Lib.hid (show 0 ≤ 1 from by omega)
  refine wp_region_held_drew (S := fun w' => ∀ i, w'.cell? ⟨q, i, none⟩ = (#[.int .i64 8, .int .u32 sender, .int .u32 media, .int .u64 ntp, .int .u32 rtp, .int .u32 pkts, .int .u32 octs, .slice rA reps.length rz, .string name, .slice sA srcs.length sz, .slice qA seqs.length qz, .int .u16 base, .int .u32 ref, .int .u8 count, .slice aA arrs.length az, .slice (some ⟨g, o, none⟩) wants.length wz] : Array Value)[i]?) (by kernel_rfl) (HSS.out _ _ (.refl _) HST.out.drew) (fun hHeld => ?_)
  refine wpAnyH_take (i := 0) (oi := _) (v := ?_) rfl (by kernel_rfl) (by kernel_rfl) (by kernel_rfl) (fun _ _ _ h => h) (Or.inl ⟨by rfl, ?_⟩) (by assumption) ?_
  rotate_left
  · (intro w hSw; (try dsimp only at hSw); go_simp; try with_reducible rfl)
  try simp only [Act.put, List.getElem_toArray, List.getElem_cons_zero, List.getElem_cons_succ, List.setIfInBounds_toArray, List.set_cons_zero, List.set_cons_succ]
  refine wpAnyH_take (i := 1) (oi := _) (v := ?_) rfl (by kernel_rfl) (by kernel_rfl) (by kernel_rfl) (fun _ _ _ h => h) (Or.inl ⟨by rfl, ?_⟩) (by assumption) ?_
  rotate_left
  · (intro w hSw; (try dsimp only at hSw); go_simp; try with_reducible rfl)
  try simp only [Act.put, List.getElem_toArray, List.getElem_cons_zero, List.getElem_cons_succ, List.setIfInBounds_toArray, List.set_cons_zero, List.set_cons_succ]
  refine wpAnyH_take (i := 3) (oi := _) (v := ?_) rfl (by kernel_rfl) (by kernel_rfl) (by kernel_rfl) (fun _ _ _ h => h) (Or.inl ⟨by rfl, ?_⟩) (by assumption) ?_
  rotate_left
  · (intro w hSw; (try dsimp only at hSw); go_simp; try with_reducible rfl)
  try simp only [Act.put, List.getElem_toArray, List.getElem_cons_zero, List.getElem_cons_succ, List.setIfInBounds_toArray, List.set_cons_zero, List.set_cons_succ]
  refine wpAnyH_take (i := 4) (oi := _) (v := ?_) rfl (by kernel_rfl) (by kernel_rfl) (by kernel_rfl) (fun _ _ _ h => h) (Or.inl ⟨by rfl, ?_⟩) (by assumption) ?_
  rotate_left
  · (intro w hSw; (try dsimp only at hSw); go_simp; try with_reducible rfl)
  try simp only [Act.put, List.getElem_toArray, List.getElem_cons_zero, List.getElem_cons_succ, List.setIfInBounds_toArray, List.set_cons_zero, List.set_cons_succ]
  refine anyH_ro (I := I) (M := bk q 56 #[.int .i64 8, .int .u32 sender, .int .u32 media, .int .u64 ntp, .int .u32 rtp, .int .u32 pkts, .int .u32 octs, .slice rA reps.length rz, .string name, .slice sA srcs.length sz, .slice qA seqs.length qz, .int .u16 base, .int .u32 ref, .int .u8 count, .slice aA arrs.length az, .slice (some ⟨g, o, none⟩) wants.length wz] :: M) (l := [(2, 12, u32B sender), (5, 15, u32B media)]) 3 (by kernel_rfl) (by simp only [List.map_cons, List.map_nil]; decide) (by simp only [List.map_cons, List.map_nil]; decide) HSS.out HST.out.drew ?_ ?_
  · refine List.forall_mem_cons.2 ⟨?_, List.forall_mem_cons.2 ⟨?_, fun _ h => by cases h⟩⟩
    · refine CdStep.call (o := _) rfl rfl rfl rfl (fun _ _ => rfl) ?_ (fun J w hle hs => (four_frz J _ w (sender) (HOK.out.sender) hs).mono (fun _ _ h => h))
      intro xf; simp [Act.over, setAll, Act.eval]
    · refine CdStep.call (o := _) rfl rfl rfl rfl (fun _ _ => rfl) ?_ (fun J w hle hs => (four_frz J _ w (media) (HOK.out.media) hs).mono (fun _ _ h => h))
      intro xf; simp [Act.over, setAll, Act.eval]
  · intro xf J w hle hs hx
    have r0 : RoB (u32B sender) (xf 12) J := hx (2, 12, u32B sender) (by simp)
    have r1 : RoB (u32B media) (xf 15) J := hx (5, 15, u32B media) (by simp)
    simp only [List.map_cons, List.map_nil, Act.over, setAll, List.foldl_cons, List.foldl_nil, List.setIfInBounds_toArray, List.set_cons_zero, List.set_cons_succ]
    generalize xf 12 = v12 at *
    obtain ⟨A12, c12, rfl, b12⟩ := r0
    generalize xf 15 = v15 at *
    obtain ⟨A15, c15, rfl, b15⟩ := r1
    clear hx
    refine wpAnyH_ready (rs := [6]) (by kernel_rfl) (by simp) ?_
    refine AllReadyH.cons (o := _) rfl (fun K hK => ?_) AllReadyH.nil
    go_simp
    try clear hHeld
    refine hK.out _ _ (HSS.out J _ hle (hs.grow _)) (fun hHeld => ?_)
    clear hK K
    try simp only [Act.put, List.getElem_toArray, List.getElem_cons_zero, List.getElem_cons_succ, List.setIfInBounds_toArray, List.set_cons_zero, List.set_cons_succ]
    obtain ⟨J2, hle2, hs2, hobj⟩ := (hs.alloc 24 #[.slice A12 (u32B sender).length c12, .slice A15 (u32B media).length c15]).freezeBlk
    have hcs := Cells.ofBlk hobj
    refine wpAnyH_ready (rs := [7]) (by kernel_rfl) (by simp) ?_
    refine AllReadyH.cons (o := _) rfl (fun K hK => ?_) AllReadyH.nil
    go_simp
    go_at_call 35
    refine (joinR J2 (bk q 56 #[.int .i64 8, .int .u32 sender, .int .u32 media, .int .u64 ntp, .int .u32 rtp, .int .u32 pkts, .int .u32 octs, .slice rA reps.length rz, .string name, .slice sA srcs.length sz, .slice qA seqs.length qz, .int .u16 base, .int .u32 ref, .int .u8 count, .slice aA arrs.length az, .slice (some ⟨g, o, none⟩) wants.length wz] :: M) _ (some ⟨w.heap.size, 0, none⟩) 2 [u32B sender, u32B media] [.slice A12 (u32B sender).length c12, .slice A15 (u32B media).length c15] hcs ⟨⟨A12, c12, rfl, b12.mono hle2⟩, ⟨A15, c15, rfl, b15.mono hle2⟩, trivial⟩ (by simp) (by have := HLB.out; simp only [List.flatten_cons, List.flatten_nil, List.length_append, List.length_cons, List.length_nil, u32B_len, u16B_len]; omega) hs2).mono ?_
    rintro e w3 ⟨_, _, _, rfl, _, hs3, rfl, A3, c3, rfl, hc3, rfl⟩
    obtain ⟨fl, hfl⟩ : ∃ z : List UInt8, z = ([u32B sender, u32B media] : List (List UInt8)).flatten := ⟨_, rfl⟩
    rw [← hfl] at hs3 hc3 ⊢
    have HFLAT := Lib.hid hfl
    clear hfl
    try clear hHeld
    refine hK.out _ _ (HSS.out J2 _ (hle.trans hle2) hs3.drop) (fun hHeld => ?_)
    clear hK K
    try simp only [Act.put, List.getElem_toArray, List.getElem_cons_zero, List.getElem_cons_succ, List.setIfInBounds_toArray, List.set_cons_zero, List.set_cons_succ]
    refine wpAnyH_take (i := 8) (oi := _) (v := ?_) rfl (by kernel_rfl) (by kernel_rfl) (by kernel_rfl) (fun _ _ _ h => h) (Or.inl ⟨by rfl, ?_⟩) (by assumption) ?_
    rotate_left
    · (intro w hSw; (try dsimp only at hSw); go_simp; try with_reducible rfl)
    try simp only [Act.put, List.getElem_toArray, List.getElem_cons_zero, List.getElem_cons_succ, List.setIfInBounds_toArray, List.set_cons_zero, List.set_cons_succ]
    refine wpAnyH_done (by kernel_rfl) ?_ _
    have HS := Lib.hid hs3
    have HLE := Lib.hid (hle.trans hle2)
    have HFL0 := Lib.hid HFLAT.out
    clear hs hs2 hs3 hHeld hle hle2 hcs hobj HFLAT hc3
    obtain ⟨hcq, hfq, hlq⟩ := Blk.all (HS.out.at 1 rfl)
    go_upto_region 7 with fail
    clear hcq hfq hlq
    have HFL8 := Lib.hid (show fl.length = 8 by rw [HFL0.out]; simp [u32B_len])
    go_loopw [3, 21] (fun bv iv wr => ∃ (A : Option Addr) (n c i : Nat), bv = .slice A n c ∧ iv = .int .i64 i ∧ i ≤ wants.length ∧ n = 8 + 8 * i ∧ Hid (∃ (J : Img), I.le J ∧ St J (row 5 1 (.slice A n c) n (bvs (fl ++ (wants.take i).flatMap wnL)) :: bk q 56 #[.int .i64 8, .int .u32 sender, .int .u32 media, .int .u64 ntp, .int .u32 rtp, .int .u32 pkts, .int .u32 octs, .slice rA reps.length rz, .string name, .slice sA srcs.length sz, .slice qA seqs.length qz, .int .u16 base, .int .u32 ref, .int .u8 count, .slice aA arrs.length az, .slice (some ⟨g, o, none⟩) wants.length wz] :: M) wr)) (fun _ iv _ => wants.length - (intOf iv).toNat)
    case atStart => exact ⟨_, _, _, 0, rfl, rfl, by omega, HFL8.out, Lib.hid ⟨_, HLE.out, by simpa using HS.out⟩⟩
    case round =>
      obtain ⟨A, n, c, i, rfl, rfl, hi, hn, hh⟩ := hrel
      obtain ⟨J0, hle0, hs0⟩ := hh.out
      clear hh HS HLE
      by_cases hlt : i < wants.length
      · skip
        have hcl : ∀ (M' : List Res) (J' : Img) (w' : World), J0.le J' → St J' M' w' → ∀ j, j < 2 → w'.cell? ⟨g, o + i * 2 + j, none⟩ = (wnC wants[i])[j]? := fun M' J' w' hl h j hj => HCELL.out _ _ (h.less (hle0.trans hl)) i hlt j hj
        have hm := HOK.out.wants _ (List.getElem_mem hlt)
        have hsn := fm_snoc wnL wants i hlt
        generalize wants[i] = x at hcl hm hsn
        have HCL := Lib.hid hcl
        have HM := Lib.hid hm
        have hm2 := hm.2
        obtain ⟨q1, q2⟩ := hm2
        have hjw : IntKind.i64.wrap (i : Int) = (i : Int) := wrap_i64 (by omega) (by omega)
        obtain ⟨bl, hbe⟩ : ∃ bl, bl = fl ++ (wants.take i).flatMap wnL := ⟨_, rfl⟩
        have hbl2 : bl.length = n := by have hfl8 := HFL8.out; rw [hbe, List.length_append, fm_len (s := 8) (fun _ => rfl), List.length_take]; omega
        rw [← hbe] at hs0
        obtain ⟨J1, hle1, hs1, hb1⟩ := hs0.freezeRow
        have HB1 := Lib.hid (show Byts J1 A bl from hb1)
        have HSN := Lib.hid (And.intro hbe hsn)
        have HST := Lib.hid hs1
        have HLE := Lib.hid (hle0.trans hle1)
        have HLB := Lib.hid (show bl.length ≤ 100 by omega)
        have HBL2 := Lib.hid hbl2
        have HN := Lib.hid hn
        have HSS2 := Lib.hid (fun (J : Img) (w' : World) (hl : J1.le J) (hs : St J (bk q 56 #[.int .i64 8, .int .u32 sender, .int .u32 media, .int .u64 ntp, .int .u32 rtp, .int .u32 pkts, .int .u32 octs, .slice rA reps.length rz, .string name, .slice sA srcs.length sz, .slice qA seqs.length qz, .int .u16 base, .int .u32 ref, .int .u8 count, .slice aA arrs.length az, .slice (some ⟨g, o, none⟩) wants.length wz] :: M) w') => (show (∀ i, w'.cell? ⟨q, i, none⟩ = (#[.int .i64 8, .int .u32 sender, .int .u32 media, .int .u64 ntp, .int .u32 rtp, .int .u32 pkts, .int .u32 octs, .slice rA reps.length rz, .string name, .slice sA srcs.length sz, .slice qA seqs.length qz, .int .u16 base, .int .u32 ref, .int .u8 count, .slice aA arrs.length az, .slice (some ⟨g, o, none⟩) wants.length wz] : Array Value)[i]?) ∧ w'.cell? ⟨g, o + i * 2, none⟩ = some (.int .u32 x.src) ∧ w'.cell? ⟨g, o + i * 2 + 1, none⟩ = some (.int .u8 x.seq) from ⟨(Blk.all (hs.at 0 rfl)).1, HCL.out _ J w' (hle1.trans hl) hs 0 (by decide), HCL.out _ J w' (hle1.trans hl) hs 1 (by decide)⟩))
        clear hs0 hs1 hle0 hle1 hb1 hcl hsn hbe hm hn hbl2
        go_upto_region 9 with fail
        refine wp_region_held_drew (S := fun w' => (∀ i, w'.cell? ⟨q, i, none⟩ = (#[.int .i64 8, .int .u32 sender, .int .u32 media, .int .u64 ntp, .int .u32 rtp, .int .u32 pkts, .int .u32 octs, .slice rA reps.length rz, .string name, .slice sA srcs.length sz, .slice qA seqs.length qz, .int .u16 base, .int .u32 ref, .int .u8 count, .slice aA arrs.length az, .slice (some ⟨g, o, none⟩) wants.length wz] : Array Value)[i]?) ∧ w'.cell? ⟨g, o + i * 2, none⟩ = some (.int .u32 x.src) ∧ w'.cell? ⟨g, o + i * 2 + 1, none⟩ = some (.int .u8 x.seq)) (by kernel_rfl) (HSS2.out _ _ (.refl _) HST.out.drew) (fun hHeld => ?_)
        refine wpAnyH_take (i := 0) (oi := _) (v := ?_) rfl (by kernel_rfl) (by kernel_rfl) (by kernel_rfl) (fun _ _ _ h => h) (Or.inl ⟨by rfl, ?_⟩) (by assumption) ?_
        rotate_left
        · (intro w hSw; (try dsimp only at hSw); go_simp; try with_reducible rfl)
        try simp only [Act.put, List.getElem_toArray, List.getElem_cons_zero, List.getElem_cons_succ, List.setIfInBounds_toArray, List.set_cons_zero, List.set_cons_succ]
        refine wpAnyH_take (i := 1) (oi := _) (v := ?_) rfl (by kernel_rfl) (by kernel_rfl) (by kernel_rfl) (fun _ _ _ h => h) (Or.inl ⟨by rfl, ?_⟩) (by assumption) ?_
        rotate_left
        · (intro w hSw; (try dsimp only at hSw); go_simp; try with_reducible rfl)
        try simp only [Act.put, List.getElem_toArray, List.getElem_cons_zero, List.getElem_cons_succ, List.setIfInBounds_toArray, List.set_cons_zero, List.set_cons_succ]
        refine wpAnyH_take (i := 2) (oi := _) (v := ?_) rfl (by kernel_rfl) (by kernel_rfl) (by kernel_rfl) (fun _ _ _ h => h) (Or.inl ⟨by rfl, ?_⟩) (by assumption) ?_
        rotate_left
        · (intro w hSw; (try dsimp only at hSw); go_simp; try with_reducible rfl)
        try simp only [Act.put, List.getElem_toArray, List.getElem_cons_zero, List.getElem_cons_succ, List.setIfInBounds_toArray, List.set_cons_zero, List.set_cons_succ]
        refine wpAnyH_take (i := 3) (oi := _) (v := ?_) rfl (by kernel_rfl) (by kernel_rfl) (by kernel_rfl) (fun _ _ _ h => h) (Or.inl ⟨by rfl, ?_⟩) (by assumption) ?_
        rotate_left
        · (intro w hSw; (try dsimp only at hSw); go_simp; try with_reducible rfl)
        try simp only [Act.put, List.getElem_toArray, List.getElem_cons_zero, List.getElem_cons_succ, List.setIfInBounds_toArray, List.set_cons_zero, List.set_cons_succ]
        refine wpAnyH_take (i := 4) (oi := _) (v := ?_) rfl (by kernel_rfl) (by kernel_rfl) (by kernel_rfl) (fun _ _ _ h => h) (Or.inl ⟨by rfl, ?_⟩) (by assumption) ?_
        rotate_left
        · (intro w hSw; (try dsimp only at hSw); go_simp; try with_reducible rfl)
        try simp only [Act.put, List.getElem_toArray, List.getElem_cons_zero, List.getElem_cons_succ, List.setIfInBounds_toArray, List.set_cons_zero, List.set_cons_succ]
        refine wpAnyH_take (i := 5) (oi := _) (v := ?_) rfl (by kernel_rfl) (by kernel_rfl) (by kernel_rfl) (fun _ _ _ h => h) (Or.inl ⟨by rfl, ?_⟩) (by assumption) ?_
        rotate_left
        · (intro w hSw; (try dsimp only at hSw); go_simp; try with_reducible rfl)
        try simp only [Act.put, List.getElem_toArray, List.getElem_cons_zero, List.getElem_cons_succ, List.setIfInBounds_toArray, List.set_cons_zero, List.set_cons_succ]
        refine wpAnyH_take (i := 6) (oi := _) (v := ?_) rfl (by kernel_rfl) (by kernel_rfl) (by kernel_rfl) (fun _ _ _ h => h) (Or.inl ⟨by rfl, ?_⟩) (by assumption) ?_
        rotate_left
        · (intro w hSw; (try dsimp only at hSw); go_simp; try with_reducible rfl)
        try simp only [Act.put, List.getElem_toArray, List.getElem_cons_zero, List.getElem_cons_succ, List.setIfInBounds_toArray, List.set_cons_zero, List.set_cons_succ]
        refine wpAnyH_take (i := 8) (oi := _) (v := ?_) rfl (by kernel_rfl) (by kernel_rfl) (by kernel_rfl) (fun _ _ _ h => h) (Or.inl ⟨by rfl, ?_⟩) (by assumption) ?_
        rotate_left
        · (intro w hSw; (try dsimp only at hSw); go_simp; try with_reducible rfl)
        try simp only [Act.put, List.getElem_toArray, List.getElem_cons_zero, List.getElem_cons_succ, List.setIfInBounds_toArray, List.set_cons_zero, List.set_cons_succ]
        refine wpAnyH_take (i := 9) (oi := _) (v := ?_) rfl (by kernel_rfl) (by kernel_rfl) (by kernel_rfl) (fun _ _ _ h => h) (Or.inl ⟨by rfl, ?_⟩) (by assumption) ?_
        rotate_left
        · (intro w hSw; (try dsimp only at hSw); go_simp; try with_reducible rfl)
        try simp only [Act.put, List.getElem_toArray, List.getElem_cons_zero, List.getElem_cons_succ, List.setIfInBounds_toArray, List.set_cons_zero, List.set_cons_succ]
        refine wpAnyH_take (i := 10) (oi := _) (v := ?_) rfl (by kernel_rfl) (by kernel_rfl) (by kernel_rfl) (fun _ _ _ h => h) (Or.inl ⟨by rfl, ?_⟩) (by assumption) ?_
        rotate_left
        · (intro w hSw; (try dsimp only at hSw); go_simp; try with_reducible rfl)
        try simp only [Act.put, List.getElem_toArray, List.getElem_cons_zero, List.getElem_cons_succ, List.setIfInBounds_toArray, List.set_cons_zero, List.set_cons_succ]
        refine wpAnyH_take (i := 11) (oi := _) (v := ?_) rfl (by kernel_rfl) (by kernel_rfl) (by kernel_rfl) (fun _ _ _ h => h) (Or.inl ⟨by rfl, ?_⟩) (by assumption) ?_
        rotate_left
        · (intro w hSw; (try dsimp only at hSw); go_simp; try with_reducible rfl)
        try simp only [Act.put, List.getElem_toArray, List.getElem_cons_zero, List.getElem_cons_succ, List.setIfInBounds_toArray, List.set_cons_zero, List.set_cons_succ]
        refine wpAnyH_take (i := 12) (oi := _) (v := ?_) rfl (by kernel_rfl) (by kernel_rfl) (by kernel_rfl) (fun _ _ _ h => h) (Or.inl ⟨by rfl, ?_⟩) (by assumption) ?_
        rotate_left
        · (intro w hSw; (try dsimp only at hSw); go_simp; try with_reducible rfl)
        try simp only [Act.put, List.getElem_toArray, List.getElem_cons_zero, List.getElem_cons_succ, List.setIfInBounds_toArray, List.set_cons_zero, List.set_cons_succ]
        refine wpAnyH_take (i := 13) (oi := _) (v := ?_) rfl (by kernel_rfl) (by kernel_rfl) (by kernel_rfl) (fun _ _ _ h => h) (Or.inl ⟨by rfl, ?_⟩) (by assumption) ?_
        rotate_left
        · (intro w hSw; (try dsimp only at hSw); go_simp; try with_reducible rfl)
        try simp only [Act.put, List.getElem_toArray, List.getElem_cons_zero, List.getElem_cons_succ, List.setIfInBounds_toArray, List.set_cons_zero, List.set_cons_succ]
        refine anyH_ro (I := J1) (M := bk q 56 #[.int .i64 8, .int .u32 sender, .int .u32 media, .int .u64 ntp, .int .u32 rtp, .int .u32 pkts, .int .u32 octs, .slice rA reps.length rz, .string name, .slice sA srcs.length sz, .slice qA seqs.length qz, .int .u16 base, .int .u32 ref, .int .u8 count, .slice aA arrs.length az, .slice (some ⟨g, o, none⟩) wants.length wz] :: M) (l := [(7, 31, u32B x.src), (14, 38, [byteOf x.seq, byteOf 0, byteOf 0, byteOf 0])]) 3 (by kernel_rfl) (by simp only [List.map_cons, List.map_nil]; decide) (by simp only [List.map_cons, List.map_nil]; decide) HSS2.out HST.out.drew ?_ ?_
        · refine List.forall_mem_cons.2 ⟨?_, List.forall_mem_cons.2 ⟨?_, fun _ h => by cases h⟩⟩
          · refine CdStep.call (o := _) rfl rfl rfl rfl (fun _ _ => rfl) ?_ (fun J w hle hs => (four_frz J _ w (x.src) (HM.out.1) hs).mono (fun _ _ h => h))
            intro xf; simp [Act.over, setAll, Act.eval]
          · refine CdStep.lit (o := _) rfl rfl rfl rfl (fun xf J w hle hs => ?_)
            obtain ⟨J9, hle9, hs9, hobj⟩ := (hs.alloc 5 #[.int .u8 x.seq, .int .u8 0, .int .u8 0, .int .u8 0]).freezeBlk
            refine ⟨.slice (some ⟨w.heap.size, 0, none⟩) 4 4, J9, w.alloc (.cells #[.int .u8 x.seq, .int .u8 0, .int .u8 0, .int .u8 0] 5), ?_, hle9, hs9, ⟨_, 4, rfl, Byts.ofBlk hobj (lit_four q1 (by omega))⟩⟩
            simp only [Act.over, setAll, List.map_cons, List.map_nil, List.foldl_cons, List.foldl_nil, List.setIfInBounds_toArray, List.set_cons_zero, List.set_cons_succ]
            kernel_rfl
        · intro xf J w hle hs hx
          have r0 : RoB (u32B x.src) (xf 31) J := hx (7, 31, u32B x.src) (by simp)
          have r1 : RoB ([byteOf x.seq, byteOf 0, byteOf 0, byteOf 0]) (xf 38) J := hx (14, 38, [byteOf x.seq, byteOf 0, byteOf 0, byteOf 0]) (by simp)
          simp only [List.map_cons, List.map_nil, Act.over, setAll, List.foldl_cons, List.foldl_nil, List.setIfInBounds_toArray, List.set_cons_zero, List.set_cons_succ]
          generalize xf 31 = v31 at *
          obtain ⟨A31, c31, rfl, b31⟩ := r0
          generalize xf 38 = v38 at *
          obtain ⟨A38, c38, rfl, b38⟩ := r1
          clear hx
          refine wpAnyH_ready (rs := [15]) (by kernel_rfl) (by simp) ?_
          refine AllReadyH.cons (o := _) rfl (fun K hK => ?_) AllReadyH.nil
          go_simp
          try clear hHeld
          refine hK.out _ _ (HSS2.out J _ hle (hs.grow _)) (fun hHeld => ?_)
          clear hK K
          try simp only [Act.put, List.getElem_toArray, List.getElem_cons_zero, List.getElem_cons_succ, List.setIfInBounds_toArray, List.set_cons_zero, List.set_cons_succ]
          obtain ⟨J2, hle2, hs2, hobj⟩ := (hs.alloc 24 #[.slice A n c, .slice A31 (u32B x.src).length c31, .slice A38 ([byteOf x.seq, byteOf 0, byteOf 0, byteOf 0]).length c38]).freezeBlk
          have hcs := Cells.ofBlk hobj
          refine wpAnyH_ready (rs := [16]) (by kernel_rfl) (by simp) ?_
          refine AllReadyH.cons (o := _) rfl (fun K hK => ?_) AllReadyH.nil
          go_simp
          go_at_call 35
          refine (joinR J2 (bk q 56 #[.int .i64 8, .int .u32 sender, .int .u32 media, .int .u64 ntp, .int .u32 rtp, .int .u32 pkts, .int .u32 octs, .slice rA reps.length rz, .string name, .slice sA srcs.length sz, .slice qA seqs.length qz, .int .u16 base, .int .u32 ref, .int .u8 count, .slice aA arrs.length az, .slice (some ⟨g, o, none⟩) wants.length wz] :: M) _ (some ⟨w.heap.size, 0, none⟩) 3 [bl, u32B x.src, [byteOf x.seq, byteOf 0, byteOf 0, byteOf 0]] [.slice A n c, .slice A31 (u32B x.src).length c31, .slice A38 ([byteOf x.seq, byteOf 0, byteOf 0, byteOf 0]).length c38] hcs ⟨⟨A, c, by rw [HBL2.out], (HB1.out.mono hle).mono hle2⟩, ⟨A31, c31, rfl, b31.mono hle2⟩, ⟨A38, c38, rfl, b38.mono hle2⟩, trivial⟩ (by simp) (by have := HLB.out; simp only [List.flatten_cons, List.flatten_nil, List.length_append, List.length_cons, List.length_nil, u32B_len, u16B_len]; omega) hs2).mono ?_
          rintro e w3 ⟨_, _, _, rfl, _, hs3, rfl, A3, c3, rfl, hc3, rfl⟩
          obtain ⟨fm, hfl⟩ : ∃ z : List UInt8, z = ([bl, u32B x.src, [byteOf x.seq, byteOf 0, byteOf 0, byteOf 0]] : List (List UInt8)).flatten := ⟨_, rfl⟩
          rw [← hfl] at hs3 hc3 ⊢
          have HFLAT := Lib.hid hfl
          clear hfl
          try clear hHeld
          refine hK.out _ _ (HSS2.out J2 _ (hle.trans hle2) hs3.drop) (fun hHeld => ?_)
          clear hK K
          try simp only [Act.put, List.getElem_toArray, List.getElem_cons_zero, List.getElem_cons_succ, List.setIfInBounds_toArray, List.set_cons_zero, List.set_cons_succ]
          refine wpAnyH_take (i := 17) (oi := _) (v := ?_) rfl (by kernel_rfl) (by kernel_rfl) (by kernel_rfl) (fun _ _ _ h => h) (Or.inl ⟨by rfl, ?_⟩) (by assumption) ?_
          rotate_left
          · (intro w hSw; (try dsimp only at hSw); go_simp; try with_reducible rfl)
          try simp only [Act.put, List.getElem_toArray, List.getElem_cons_zero, List.getElem_cons_succ, List.setIfInBounds_toArray, List.set_cons_zero, List.set_cons_succ]
          refine wpAnyH_done (by kernel_rfl) ?_ _
          have hfe : fm = fl ++ (wants.take (i + 1)).flatMap wnL := by
            rw [HFLAT.out, HSN.out.2, HSN.out.1, ← wn_four q1 q2]
            simp
          have hln : fm.length = n + 8 := by rw [HFLAT.out]; simp [u32B_len, HBL2.out]
          rw [hfe] at hs3
          rw [← hfe, hln] at hs3
          rw [hln]
          rw [hfe] at hs3
          have HS4 := Lib.hid hs3
          have HLE4 := Lib.hid ((HLE.out.trans hle).trans hle2)
          clear hs hs2 hs3 hHeld hle hle2 hcs hobj HFLAT hfe hc3 hln
          go_wp2
          go_roundw
          case rel => exact ⟨A3, n + 8, c3, i + 1, rfl, by go_num, by omega, by have := HN.out; omega, Lib.hid ⟨_, HLE4.out, HS4.out⟩⟩
          case measure => simp [intOf]; omega
      · have hin : i = wants.length := by omega
        rw [List.take_of_length_le (by omega)] at hs0
        subst hin
        obtain ⟨fm, hfm⟩ : ∃ fm, fm = fl ++ wants.flatMap wnL := ⟨_, rfl⟩
        have hbq : fm = B := by rw [hfm, HFL0.out, HBE.out]; exact body8 HGD.out
        have hn5 : fm.length = n := by have hfl8 := HFL8.out; rw [hfm, List.length_append, fm_len (s := 8) (fun _ => rfl)]; omega
        rw [← hfm] at hs0
        clear hfm
        subst hbq
        rw [← hn5] at hs0 ⊢
        have HS := Lib.hid hs0
        have HLE := Lib.hid hle0
        clear hs0 hle0 hn5 hn
        generalize J0 = J2 at *
        go_upto_region 36 with fail
        go_loopw [3] (fun bv wr => ∃ (A : Option Addr) (n c : Nat), bv = .slice A n c ∧ n ≤ 4000 ∧ Hid (∃ (j : Nat) (J : Img), n = fm.length + j ∧ j ≤ (4 - fm.length % 4) % 4 ∧ I.le J ∧ St J (row 5 1 (.slice A n c) n (bvs (fm ++ List.replicate j 0)) :: bk q 56 #[.int .i64 8, .int .u32 sender, .int .u32 media, .int .u64 ntp, .int .u32 rtp, .int .u32 pkts, .int .u32 octs, .slice rA reps.length rz, .string name, .slice sA srcs.length sz, .slice qA seqs.length qz, .int .u16 base, .int .u32 ref, .int .u8 count, .slice aA arrs.length az, .slice (some ⟨g, o, none⟩) wants.length wz] :: M) wr)) (fun bv _ => (4 - sliceLen bv % 4) % 4)
        case atStart => exact ⟨_, _, _, rfl, by omega, Lib.hid ⟨0, J2, rfl, Nat.zero_le _, HLE.out, by simpa using HS.out⟩⟩
        case round =>
          obtain ⟨A, n, c, rfl, hn, hh⟩ := hrel
          obtain ⟨j, J, hnj, hj, hle, hs⟩ := hh.out
          clear hh HS HLE
          have hln : (fm ++ List.replicate j 0).length = n := by rw [hnj]; simp
          have HLN := Lib.hid hln
          have HRP := Lib.hid (rep_snoc j)
          have HNJ := Lib.hid hnj
          by_cases hlt : j < (4 - fm.length % 4) % 4
          · have hm : ((n : Int) % 4 != 0) = true := by rw [bne_iff_ne]; omega
            obtain ⟨J3, hle3, hs3, hobj⟩ := (hs.alloc 5 #[.int .u8 0]).freezeBlk
            have HB1 := Lib.hid (show RoB [0] (.slice (some ⟨wr.heap.size, 0, none⟩) 1 1) J3 from ⟨_, 1, rfl, Byts.ofBlk hobj rfl⟩)
            obtain ⟨bl, hbe⟩ : ∃ bl, bl = fm ++ List.replicate j 0 := ⟨_, rfl⟩
            rw [← hbe] at hs3 hln
            rw [← hln] at hs3
            have HBL := Lib.hid hbe
            have HS3 := Lib.hid hs3
            have HLE := Lib.hid (hle.trans hle3)
            have HLT := Lib.hid hlt
            have HLL := Lib.hid hln
            clear hbe hle hle3 hs hs3 hobj hnj hj hln hlt
            go_wp2_with (at_builtin; refine wpList_appB rfl _ _ rfl J3 _ _ _ _ _ (by rw [HLL.out]; rfl) rfl HS3.out HB1.out (by have := HLL.out; simp only [List.length_cons, List.length_nil]; omega) ?_)
            intro v3 w3 hs4
            obtain ⟨A5, c5, rfl⟩ := own_form (show World.ownsRow _ 0 5 1 v3 _ _ from St.at hs4 0 rfl)
            have hl5 : (bl ++ [0]).length = n + 1 := by rw [List.length_append, HLL.out]; rfl
            have hs5 := show St J3 _ w3 from hs4
            rw [hl5] at hs5 ⊢
            have HS5 := Lib.hid hs5
            clear hs4 hs5 HS3 HB1 hl5
            go_wp2
            go_roundw
            case rel =>
              refine ⟨A5, n + 1, c5, rfl, by have := HLT.out; have := HNJ.out; omega, Lib.hid ⟨j + 1, J3, by have := HNJ.out; omega, by have := HLT.out; omega, HLE.out, ?_⟩⟩
              have := HS5.out
              rw [HBL.out, List.append_assoc, ← HRP.out] at this
              exact this
            case measure =>
              have h1 := HNJ.out
              have h2 := HLT.out
              show (4 - (n + 1) % 4) % 4 < (4 - n % 4) % 4
              omega
          · have hm : ((n : Int) % 4 != 0) = false := by rw [bne_eq_false_iff_eq]; omega
            have hjj : j = (4 - fm.length % 4) % 4 := by omega
            rw [hjj, even_rep] at hs hln
            obtain ⟨E, hE⟩ : ∃ E, E = evenL fm := ⟨_, rfl⟩
            rw [← hE] at hs hln
            have HE := Lib.hid hE
            obtain ⟨J3, hle3, hs3, hb3⟩ := hs.freezeRow
            have HS3 := Lib.hid hs3
            have HB3 := Lib.hid (show Byts J3 A E from hb3)
            have HLE := Lib.hid (hle.trans hle3)
            have HLL := Lib.hid hln
            clear hs hs3 hb3 hle hle3 hE hln hnj hj hjj hlt
            have HV := Lib.hid (show [byteOf (132), byteOf 206] ++ u16B ((E.length / 4 : Nat) : Int) ++ E = packB (⟨8, sender, media, ntp, rtp, pkts, octs, reps, name, srcs, seqs, base, ref, count, arrs, wants⟩ : Pk) by
              have e1 : 128 + low = 132 := by rw [HLE0.out]; rfl
              rw [← e1, HLE0.out, HE.out, HBE.out]
              rfl)
            obtain ⟨J4, hle4, hs4, hobj⟩ := (HS3.out.alloc 5 #[.int .u8 (132), .int .u8 206]).freezeBlk
            have HB4 := Lib.hid (show Byts J4 (some ⟨wr.heap.size, 0, none⟩) [byteOf (132), byteOf 206] from Byts.ofBlk hobj (lit_two (by omega) (by omega)))
            have HT := Lib.hid (twoR J4 _ _ ((n : Int) / 4) hs4)
            have HLE4 := Lib.hid hle4
            clear hle4 hs4 hobj HS3
            go_wp2_with fail
            go_at_call 39
            refine HT.out.mono ?_
            clear HT
            rintro e w2 ⟨_, _, _, rfl, _, hs1, rfl, A6, c6, rfl, hc6, rfl⟩
            obtain ⟨J5, hle5, hs5, hb5⟩ := hs1.freezeRow
            have hb5 : Byts J5 A6 (u16B ((n : Int) / 4 % 65536)) := hb5
            obtain ⟨J6, hle6, hs6, hobj⟩ := (hs5.alloc 24 #[.slice (some ⟨wr.heap.size, 0, none⟩) 2 2, .slice A6 (u16B ((n : Int) / 4 % 65536)).length c6, .slice A n c]).freezeBlk
            have hcs := Cells.ofBlk hobj
            have HJ := Lib.hid (joinR J6 (bk q 56 #[.int .i64 8, .int .u32 sender, .int .u32 media, .int .u64 ntp, .int .u32 rtp, .int .u32 pkts, .int .u32 octs, .slice rA reps.length rz, .string name, .slice sA srcs.length sz, .slice qA seqs.length qz, .int .u16 base, .int .u32 ref, .int .u8 count, .slice aA arrs.length az, .slice (some ⟨g, o, none⟩) wants.length wz] :: M) _ (some ⟨w2.heap.size, 0, none⟩) 3 [[byteOf (132), byteOf 206], u16B ((n : Int) / 4 % 65536), E] [.slice (some ⟨wr.heap.size, 0, none⟩) 2 2, .slice A6 (u16B ((n : Int) / 4 % 65536)).length c6, .slice A n c] hcs ⟨⟨_, 2, rfl, (HB4.out.mono hle5).mono hle6⟩, ⟨A6, c6, rfl, hb5.mono hle6⟩, ⟨A, c, by rw [HLL.out], ((HB3.out.mono HLE4.out).mono hle5).mono hle6⟩, trivial⟩ (by simp) (by have := HLL.out; simp only [List.flatten_cons, List.flatten_nil, List.length_append, List.length_cons, List.length_nil, u16B_len]; omega) hs6)
            have HL := Lib.hid (((HLE.out.trans HLE4.out).trans hle5).trans hle6)
            clear hs1 hs5 hs6 hb5 hc6 hobj hcs hle5 hle6 HB3 HB4
            go_wp2_with fail
            go_at_call 35
            refine HJ.out.mono ?_
            clear HJ
            rintro e w4 ⟨_, _, _, rfl, _, hs7, rfl, A7, c7, rfl, hc7, rfl⟩
            have HPE := Lib.hid (show ([[byteOf (132), byteOf 206], u16B ((n : Int) / 4 % 65536), E] : List (List UInt8)).flatten = packB (⟨8, sender, media, ntp, rtp, pkts, octs, reps, name, srcs, seqs, base, ref, count, arrs, wants⟩ : Pk) by
              rw [← HV.out, HLL.out]
              have e2 : (n : Int) / 4 % 65536 = ((n / 4 : Nat) : Int) := by omega
              rw [e2]
              simp)
            rw [HPE.out] at hs7 hc7 ⊢
            have HF := Lib.hid (show Bui I M (⟨8, sender, media, ntp, rtp, pkts, octs, reps, name, srcs, seqs, base, ref, count, arrs, wants⟩ : Pk) (.returned _) w4 from Ret.mk HL.out (St.swap1 hs7).drop ⟨A7, c7, rfl, rfl⟩)
            clear hs7 hc7 HPE HV
            generalize packB (⟨8, sender, media, ntp, rtp, pkts, octs, reps, name, srcs, seqs, base, ref, count, arrs, wants⟩ : Pk) = pbs at *
            go_wp2
            go_returns
            exact HF.out
end Go.Proofs.Ytddopbbmgpnjjaa
namespace Go.Proofs.Ytddopbbmgpnjjaa
open Go.RowKit
set_option linter.unusedSimpArgs false

set_option maxRecDepth 10000 in
set_option maxHeartbeats 4000000 in
theorem buildP (I : Img) (M : List Res) (w : World) (kind : Int) (sender : Int) (media : Int) (ntp : Int) (rtp : Int) (pkts : Int) (octs : Int) (base : Int) (ref : Int) (count : Int) (name : ByteArray) (reps : List Rp) (srcs seqs arrs : List Int) (wants : List Wn) (rA : Option Addr) (rz : Nat) (sA : Option Addr) (sz : Nat) (qA : Option Addr) (qz : Nat) (aA : Option Addr) (az : Nat) (wA : Option Addr) (wz : Nat) (cr : Cells I rA (flat repC reps)) (cs : Cells I sA (flat u32C srcs)) (cq : Cells I qA (flat u16C seqs)) (ca : Cells I aA (flat intC arrs)) (cw : Cells I wA (flat wnC wants)) (hok : PkOk (⟨kind, sender, media, ntp, rtp, pkts, octs, reps, name, srcs, seqs, base, ref, count, arrs, wants⟩ : Pk)) (hg : Good (⟨kind, sender, media, ntp, rtp, pkts, octs, reps, name, srcs, seqs, base, ref, count, arrs, wants⟩ : Pk)) (hst : St I M w) :
    Calls Try.prog 18 #[.agg #[.int .i64 kind, .int .u32 sender, .int .u32 media, .int .u64 ntp, .int .u32 rtp, .int .u32 pkts, .int .u32 octs, .slice rA reps.length rz, .string name, .slice sA srcs.length sz, .slice qA seqs.length qz, .int .u16 base, .int .u32 ref, .int .u8 count, .slice aA arrs.length az, .slice wA wants.length wz]] w (Bui I M (⟨kind, sender, media, ntp, rtp, pkts, octs, reps, name, srcs, seqs, base, ref, count, arrs, wants⟩ : Pk)) := by
  have hk : kind = 1 ∨ kind = 2 ∨ kind = 3 ∨ kind = 4 ∨ kind = 5 ∨ kind = 6 ∨ kind = 7 ∨ kind = 8 := by
    rcases hg.1 with ⟨h | h, _⟩ | ⟨h, _⟩ | ⟨h, _⟩ | ⟨h, _⟩ | ⟨h, _⟩ | h | ⟨h, _⟩ <;> simp only [] at h <;> simp [h]
  rcases hk with rfl | rfl | rfl | rfl | rfl | rfl | rfl | rfl
  · exact build1 I M w sender media ntp rtp pkts octs base ref count name reps srcs seqs arrs wants rA rz sA sz qA qz aA az wA wz cr cs cq ca cw hok hg hst
  · exact build2 I M w sender media ntp rtp pkts octs base ref count name reps srcs seqs arrs wants rA rz sA sz qA qz aA az wA wz cr cs cq ca cw hok hg hst
  · exact build3 I M w sender media ntp rtp pkts octs base ref count name reps srcs seqs arrs wants rA rz sA sz qA qz aA az wA wz cr cs cq ca cw hok hg hst
  · exact build4 I M w sender media ntp rtp pkts octs base ref count name reps srcs seqs arrs wants rA rz sA sz qA qz aA az wA wz cr cs cq ca cw hok hg hst
  · exact build5 I M w sender media ntp rtp pkts octs base ref count name reps srcs seqs arrs wants rA rz sA sz qA qz aA az wA wz cr cs cq ca cw hok hg hst
  · exact build6 I M w sender media ntp rtp pkts octs base ref count name reps srcs seqs arrs wants rA rz sA sz qA qz aA az wA wz cr cs cq ca cw hok hg hst
  · exact build7 I M w sender media ntp rtp pkts octs base ref count name reps srcs seqs arrs wants rA rz sA sz qA qz aA az wA wz cr cs cq ca cw hok hg hst
  · exact build8 I M w sender media ntp rtp pkts octs base ref count name reps srcs seqs arrs wants rA rz sA sz qA qz aA az wA wz cr cs cq ca cw hok hg hst
set_option maxRecDepth 100000 in
set_option maxHeartbeats 20000000 in
theorem refBuildC (I : Img) (M : List Res) (w : World) (A : Option Addr) (z : Nat) (ps : List (Pk × Vs)) (hp : Pks I A ps) (hst : St I M w) :
    Calls Try.prog 10 #[.slice A ps.length z] w (Ret I (fun v _ M' => BuiltAs M (pks ps) v M')) := by
  have HP := Lib.hid hp
  have HS0 := Lib.hid hst
  have hmost := hp.most
  clear hp hst
  by_cases hlen0 : 1 ≤ ps.length
  case neg =>
    have hl1 : (ps.length : Int) < 1 := by omega
    go_enter Try.func10, Try.ntmps10
    go_wp2
    go_returns
    exact Ret.mk (.refl I) HS0.out (.inr ⟨Built.no_len (by simp [pks]; omega), rfl, rfl⟩)
  have hl1 : ¬ (ps.length : Int) < 1 := by omega
  by_cases hlen : ps.length ≤ 8
  case neg =>
    have hl2 : (8 : Int) < (ps.length : Int) := by omega
    go_enter Try.func10, Try.ntmps10
    go_wp2
    go_returns
    exact Ret.mk (.refl I) HS0.out (.inr ⟨Built.no_len (by simp [pks]; omega), rfl, rfl⟩)
  have hl2 : ¬ (8 : Int) < (ps.length : Int) := by omega
  obtain ⟨g, o, rfl, hcell⟩ := flat_get (s := 16) (fun _ => rfl) HP.out.cells (by omega) (by decide)
  obtain ⟨x0, r0, hx0⟩ : ∃ x r, ps = x :: r := by
    cases ps with
    | nil => simp at hlen0
    | cons x r => exact ⟨x, r, rfl⟩
  have z0 : w.cell? ⟨g, o, none⟩ = some (.int .i64 x0.1.kind) := by
    have := hcell _ _ HS0.out 0 (by omega) 0 (by decide)
    subst hx0
    simpa using this
  have HC := Lib.hid hcell
  have HX0 := Lib.hid hx0
  clear hcell hx0
  obtain ⟨kd, hkd⟩ : ∃ kd, kd = x0.1.kind := ⟨_, rfl⟩
  rw [← hkd] at z0
  by_cases hk : kd = 1 ∨ kd = 2
  case neg =>
    have hk1 : (kd != 1) = true := by rw [bne_iff_ne]; omega
    have hk2 : (kd != 2) = true := by rw [bne_iff_ne]; omega
    have hk3 : (kd == 1) = false := by rw [beq_eq_false_iff_ne]; omega
    have hk4 : (kd == 2) = false := by rw [beq_eq_false_iff_ne]; omega
    have hk5 : kd ≠ 1 := by omega
    have hk6 : kd ≠ 2 := by omega
    have HKD := Lib.hid (show ¬ (x0.1.kind = 1 ∨ x0.1.kind = 2) by rw [← hkd]; exact hk)
    clear hkd hk
    go_enter Try.func10, Try.ntmps10
    go_wp2
    go_returns
    exact Ret.mk (.refl I) HS0.out (.inr ⟨by rw [HX0.out]; exact Built.no_head HKD.out, rfl, rfl⟩)
  have HKK := Lib.hid (show x0.1.kind = 1 ∨ x0.1.kind = 2 by rw [← hkd]; exact hk)
  have hs : St I (row 5 1 (.slice none 0 0) ([] : List UInt8).length (bvs []) :: M) w := HS0.out.nil
  have HS := Lib.hid hs
  clear hs HS0 hkd
  go_enter Try.func10, Try.ntmps10
  rcases hk with rfl | rfl
  · skip
    go_upto_region 5 with fail
    clear z0
    go_loopw [4, 30] (fun ov iv wr => ∃ (A : Option Addr) (n c i : Nat), ov = .slice A n c ∧ iv = .int .i64 i ∧ i ≤ ps.length ∧ n ≤ 24080 ∧ Hid ((∀ p ∈ (pks ps).take i, Good p) ∧ ∃ J, I.le J ∧ n = (((pks ps).take i).flatMap packB).length ∧ St J (row 5 1 (.slice A n c) n (bvs (((pks ps).take i).flatMap packB)) :: M) wr)) (fun _ iv _ => ps.length - (intOf iv).toNat)
    case atStart => exact ⟨none, 0, 0, 0, rfl, rfl, by omega, by omega, Lib.hid ⟨fun p hp => by simp at hp, I, .refl I, rfl, HS.out⟩⟩
    case round =>
      obtain ⟨A1, n, c1, i, rfl, rfl, hi, hn, hh⟩ := hrel
      clear HS
      obtain ⟨hall, J, hle, hne, hs⟩ := hh.out
      clear hh
      have hpl : (pks ps).length = ps.length := List.length_map ..
      by_cases hlt : i < ps.length
      · skip
        have hcl := fun (M' : List Res) (w' : World) (h : St J M' w') => HC.out _ _ (h.less hle) i hlt
        have hme := (HP.out.mono hle).each _ (List.getElem_mem hlt)
        have htk : (pks ps).take (i + 1) = (pks ps).take i ++ [ps[i].1] := by rw [List.take_succ_eq_append_getElem (by omega)]; simp [pks]
        have hmem : ps[i].1 ∈ pks ps := List.mem_map_of_mem (List.getElem_mem hlt)
        generalize ps[i] = x at hcl hme htk hmem
        obtain ⟨⟨kind, sender, media, ntp, rtp, pkts, octs, reps, name, srcs, seqs, base, ref, count, arrs, wants⟩, ⟨vr, vs, vq, va, vw⟩⟩ := x
        obtain ⟨⟨hr, hs', hq, ha, hw⟩, hraw⟩ := hme
        dsimp only at hr hs' hq ha hw hraw htk hmem
        obtain ⟨rA, rz, rfl, cr, -⟩ := hr
        obtain ⟨sA, sz, rfl, cs, -⟩ := hs'
        obtain ⟨qA, qz, rfl, cq, -⟩ := hq
        obtain ⟨aA, az, rfl, ca, -⟩ := ha
        obtain ⟨wA, wz, rfl, cw, -⟩ := hw
        have HCLL := Lib.hid hcl
        have y0 : wr.cell? ⟨g, o + i * 16, none⟩ = some (.int .i64 kind) := HCLL.out _ _ hs 0 (by decide)
        have y1 : wr.cell? ⟨g, o + i * 16 + 1, none⟩ = some (.int .u32 sender) := HCLL.out _ _ hs 1 (by decide)
        have y2 : wr.cell? ⟨g, o + i * 16 + 2, none⟩ = some (.int .u32 media) := HCLL.out _ _ hs 2 (by decide)
        have y3 : wr.cell? ⟨g, o + i * 16 + 3, none⟩ = some (.int .u64 ntp) := HCLL.out _ _ hs 3 (by decide)
        have y4 : wr.cell? ⟨g, o + i * 16 + 4, none⟩ = some (.int .u32 rtp) := HCLL.out _ _ hs 4 (by decide)
        have y5 : wr.cell? ⟨g, o + i * 16 + 5, none⟩ = some (.int .u32 pkts) := HCLL.out _ _ hs 5 (by decide)
        have y6 : wr.cell? ⟨g, o + i * 16 + 6, none⟩ = some (.int .u32 octs) := HCLL.out _ _ hs 6 (by decide)
        have y7 : wr.cell? ⟨g, o + i * 16 + 7, none⟩ = some (.slice rA reps.length rz) := HCLL.out _ _ hs 7 (by decide)
        have y8 : wr.cell? ⟨g, o + i * 16 + 8, none⟩ = some (.string name) := HCLL.out _ _ hs 8 (by decide)
        have y9 : wr.cell? ⟨g, o + i * 16 + 9, none⟩ = some (.slice sA srcs.length sz) := HCLL.out _ _ hs 9 (by decide)
        have y10 : wr.cell? ⟨g, o + i * 16 + 10, none⟩ = some (.slice qA seqs.length qz) := HCLL.out _ _ hs 10 (by decide)
        have y11 : wr.cell? ⟨g, o + i * 16 + 11, none⟩ = some (.int .u16 base) := HCLL.out _ _ hs 11 (by decide)
        have y12 : wr.cell? ⟨g, o + i * 16 + 12, none⟩ = some (.int .u32 ref) := HCLL.out _ _ hs 12 (by decide)
        have y13 : wr.cell? ⟨g, o + i * 16 + 13, none⟩ = some (.int .u8 count) := HCLL.out _ _ hs 13 (by decide)
        have y14 : wr.cell? ⟨g, o + i * 16 + 14, none⟩ = some (.slice aA arrs.length az) := HCLL.out _ _ hs 14 (by decide)
        have y15 : wr.cell? ⟨g, o + i * 16 + 15, none⟩ = some (.slice wA wants.length wz) := HCLL.out _ _ hs 15 (by decide)
        have HG := Lib.hid (goodR J _ _ kind sender media ntp rtp pkts octs base ref count name reps srcs seqs arrs wants rA rz sA sz qA qz aA az wA wz cr hraw.lr (fun x hx => (hraw.reps x hx).total) cq hraw.lq ca hraw.la hraw.ln cs hraw.ls cw hraw.lw hraw.ref hs)
        have HR := Lib.hid (And.intro hraw (And.intro htk (And.intro hmem hall)))
        have HCC := Lib.hid (And.intro cr (And.intro cs (And.intro cq (And.intro ca cw))))
        have HLE := Lib.hid hle
        have HNE := Lib.hid hne
        clear hs hraw htk hmem hall cr cs cq ca cw hle hcl hne
        go_wp2_with fail
        go_at_call 17
        refine HG.out.mono ?_
        clear HG y0 y1 y2 y3 y4 y5 y6 y7 y8 y9 y10 y11 y12 y13 y14 y15
        rintro e w2 ⟨_, _, _, rfl, _, hs, rfl, rfl, rfl⟩
        have y0 : w2.cell? ⟨g, o + i * 16, none⟩ = some (.int .i64 kind) := HCLL.out _ _ hs 0 (by decide)
        have y1 : w2.cell? ⟨g, o + i * 16 + 1, none⟩ = some (.int .u32 sender) := HCLL.out _ _ hs 1 (by decide)
        have y2 : w2.cell? ⟨g, o + i * 16 + 2, none⟩ = some (.int .u32 media) := HCLL.out _ _ hs 2 (by decide)
        have y3 : w2.cell? ⟨g, o + i * 16 + 3, none⟩ = some (.int .u64 ntp) := HCLL.out _ _ hs 3 (by decide)
        have y4 : w2.cell? ⟨g, o + i * 16 + 4, none⟩ = some (.int .u32 rtp) := HCLL.out _ _ hs 4 (by decide)
        have y5 : w2.cell? ⟨g, o + i * 16 + 5, none⟩ = some (.int .u32 pkts) := HCLL.out _ _ hs 5 (by decide)
        have y6 : w2.cell? ⟨g, o + i * 16 + 6, none⟩ = some (.int .u32 octs) := HCLL.out _ _ hs 6 (by decide)
        have y7 : w2.cell? ⟨g, o + i * 16 + 7, none⟩ = some (.slice rA reps.length rz) := HCLL.out _ _ hs 7 (by decide)
        have y8 : w2.cell? ⟨g, o + i * 16 + 8, none⟩ = some (.string name) := HCLL.out _ _ hs 8 (by decide)
        have y9 : w2.cell? ⟨g, o + i * 16 + 9, none⟩ = some (.slice sA srcs.length sz) := HCLL.out _ _ hs 9 (by decide)
        have y10 : w2.cell? ⟨g, o + i * 16 + 10, none⟩ = some (.slice qA seqs.length qz) := HCLL.out _ _ hs 10 (by decide)
        have y11 : w2.cell? ⟨g, o + i * 16 + 11, none⟩ = some (.int .u16 base) := HCLL.out _ _ hs 11 (by decide)
        have y12 : w2.cell? ⟨g, o + i * 16 + 12, none⟩ = some (.int .u32 ref) := HCLL.out _ _ hs 12 (by decide)
        have y13 : w2.cell? ⟨g, o + i * 16 + 13, none⟩ = some (.int .u8 count) := HCLL.out _ _ hs 13 (by decide)
        have y14 : w2.cell? ⟨g, o + i * 16 + 14, none⟩ = some (.slice aA arrs.length az) := HCLL.out _ _ hs 14 (by decide)
        have y15 : w2.cell? ⟨g, o + i * 16 + 15, none⟩ = some (.slice wA wants.length wz) := HCLL.out _ _ hs 15 (by decide)
        by_cases hg : Good (⟨kind, sender, media, ntp, rtp, pkts, octs, reps, name, srcs, seqs, base, ref, count, arrs, wants⟩ : Pk)
        · skip
          rw [goodB_yes hg]
          have HC2 := Lib.hid (buildP J _ w2 kind sender media ntp rtp pkts octs base ref count name reps srcs seqs arrs wants rA rz sA sz qA qz aA az wA wz HCC.out.1 HCC.out.2.1 HCC.out.2.2.1 HCC.out.2.2.2.1 HCC.out.2.2.2.2 (HR.out.1.ok hg) hg hs)
          have HGG := Lib.hid hg
          have HPL := Lib.hid (pack_len hg)
          clear hs hg
          go_wp2_with fail
          go_at_call 18
          refine HC2.out.mono ?_
          clear HC2 y0 y1 y2 y3 y4 y5 y6 y7 y8 y9 y10 y11 y12 y13 y14 y15
          rintro e w3 ⟨_, J2, _, rfl, hle2, hs, A2, c2, rfl, rfl⟩
          obtain ⟨pbs, hpb⟩ : ∃ z, z = packB (⟨kind, sender, media, ntp, rtp, pkts, octs, reps, name, srcs, seqs, base, ref, count, arrs, wants⟩ : Pk) := ⟨_, rfl⟩
          rw [← hpb] at hs ⊢
          obtain ⟨J3, hle3, hs3, hb3⟩ := hs.freezeRow
          have HB := Lib.hid (show RoB pbs (.slice A2 pbs.length c2) J3 from ⟨A2, c2, rfl, hb3⟩)
          obtain ⟨bl, hbe⟩ : ∃ z, z = ((pks ps).take i).flatMap packB := ⟨_, rfl⟩
          have hbn : bl.length = n := by rw [hbe]; exact HNE.out.symm
          rw [← hbe, ← hbn] at hs3
          have HS3 := Lib.hid hs3
          have HBE := Lib.hid (And.intro hbe (And.intro hbn hpb))
          have HLE3 := Lib.hid ((HLE.out.trans hle2).trans hle3)
          clear hs hle2 hle3 hs3 hb3 hbe hbn hpb
          go_wp2_with (at_builtin; refine wpList_appB rfl _ _ rfl J3 _ _ _ _ _ (by rw [HBE.out.2.1]; rfl) rfl HS3.out HB.out (by have h1 := HPL.out.2; rw [← HBE.out.2.2] at h1; have h2 := HBE.out.2.1; omega) ?_)
          intro v4 w4 hs4
          obtain ⟨A5, c5, rfl⟩ := own_form (show World.ownsRow _ 0 5 1 v4 _ _ from St.at hs4 0 rfl)
          obtain ⟨n5, hn5⟩ : ∃ n5, n5 = (bl ++ pbs).length := ⟨_, rfl⟩
          have hs5 := show St J3 _ w4 from hs4
          rw [← hn5] at hs5 ⊢
          have HFM := Lib.hid (show ((pks ps).take (i + 1)).flatMap packB = bl ++ pbs by rw [HR.out.2.1, List.flatMap_append, List.flatMap_singleton, HBE.out.1, HBE.out.2.2])
          have HAL := Lib.hid (show ∀ p ∈ (pks ps).take (i + 1), Good p by
            rw [HR.out.2.1]
            intro p hp
            rcases List.mem_append.1 hp with hp | hp
            · exact HR.out.2.2.2 p hp
            · rw [List.mem_singleton.1 hp]; exact HGG.out)
          have hn6 : n5 ≤ 24080 := by
            rw [hn5, ← HFM.out]
            exact packs_len (n := 8) (by rw [List.length_take]; omega) HAL.out
          have HN5 := Lib.hid hn5
          have HS5 := Lib.hid hs5
          clear hs4 hs5 HS3 HB hn5
          go_wp2
          go_roundw
          case rel => exact ⟨A5, n5, c5, i + 1, rfl, by go_num, by omega, hn6, Lib.hid ⟨HAL.out, J3, HLE3.out, by rw [HFM.out]; exact HN5.out, by rw [HFM.out]; exact HS5.out⟩⟩
          case measure => simp [intOf]; omega
        · skip
          rw [goodB_no hg]
          have HF := Lib.hid (Ret.mk (Q := fun v _ M' => BuiltAs M (pks ps) v M') HLE.out (hs.drop) (show BuiltAs M (pks ps) _ _ from .inr ⟨Built.no_good HR.out.2.2.1 hg, rfl, rfl⟩))
          clear hs hg
          go_wp2
          go_returns
          exact HF.out
      · skip
        have hin : i = ps.length := by omega
        rw [List.take_of_length_le (by omega)] at hs hall hne
        subst hin
        obtain ⟨bl, hbe⟩ : ∃ z, z = (pks ps).flatMap packB := ⟨_, rfl⟩
        rw [← hbe] at hs hne
        by_cases hm : n ≤ 1500
        · have HF := Lib.hid (Ret.mk (Q := fun v _ M' => BuiltAs M (pks ps) v M') hle hs (show BuiltAs M (pks ps) _ _ from .inl ⟨⟨⟨by omega, by omega⟩, ⟨x0.1, pks r0, by rw [HX0.out]; rfl, HKK.out⟩, hall, by rw [← hbe, ← hne]; exact hm⟩, _, rfl, by rw [← hbe, ← hne]⟩))
          clear hs hbe hne hall
          go_wp2
          go_returns
          exact HF.out
        · have HF := Lib.hid (Ret.mk (Q := fun v _ M' => BuiltAs M (pks ps) v M') hle hs.drop (show BuiltAs M (pks ps) _ _ from .inr ⟨Built.no_most (by rw [← hbe, ← hne]; exact hm), rfl, rfl⟩))
          have hm2 : (1500 : Int) < (n : Int) := by omega
          clear hs hbe hne hall
          go_wp2
          go_returns
          exact HF.out
  · skip
    go_upto_region 5 with fail
    clear z0
    go_loopw [4, 30] (fun ov iv wr => ∃ (A : Option Addr) (n c i : Nat), ov = .slice A n c ∧ iv = .int .i64 i ∧ i ≤ ps.length ∧ n ≤ 24080 ∧ Hid ((∀ p ∈ (pks ps).take i, Good p) ∧ ∃ J, I.le J ∧ n = (((pks ps).take i).flatMap packB).length ∧ St J (row 5 1 (.slice A n c) n (bvs (((pks ps).take i).flatMap packB)) :: M) wr)) (fun _ iv _ => ps.length - (intOf iv).toNat)
    case atStart => exact ⟨none, 0, 0, 0, rfl, rfl, by omega, by omega, Lib.hid ⟨fun p hp => by simp at hp, I, .refl I, rfl, HS.out⟩⟩
    case round =>
      obtain ⟨A1, n, c1, i, rfl, rfl, hi, hn, hh⟩ := hrel
      clear HS
      obtain ⟨hall, J, hle, hne, hs⟩ := hh.out
      clear hh
      have hpl : (pks ps).length = ps.length := List.length_map ..
      by_cases hlt : i < ps.length
      · skip
        have hcl := fun (M' : List Res) (w' : World) (h : St J M' w') => HC.out _ _ (h.less hle) i hlt
        have hme := (HP.out.mono hle).each _ (List.getElem_mem hlt)
        have htk : (pks ps).take (i + 1) = (pks ps).take i ++ [ps[i].1] := by rw [List.take_succ_eq_append_getElem (by omega)]; simp [pks]
        have hmem : ps[i].1 ∈ pks ps := List.mem_map_of_mem (List.getElem_mem hlt)
        generalize ps[i] = x at hcl hme htk hmem
        obtain ⟨⟨kind, sender, media, ntp, rtp, pkts, octs, reps, name, srcs, seqs, base, ref, count, arrs, wants⟩, ⟨vr, vs, vq, va, vw⟩⟩ := x
        obtain ⟨⟨hr, hs', hq, ha, hw⟩, hraw⟩ := hme
        dsimp only at hr hs' hq ha hw hraw htk hmem
        obtain ⟨rA, rz, rfl, cr, -⟩ := hr
        obtain ⟨sA, sz, rfl, cs, -⟩ := hs'
        obtain ⟨qA, qz, rfl, cq, -⟩ := hq
        obtain ⟨aA, az, rfl, ca, -⟩ := ha
        obtain ⟨wA, wz, rfl, cw, -⟩ := hw
        have HCLL := Lib.hid hcl
        have y0 : wr.cell? ⟨g, o + i * 16, none⟩ = some (.int .i64 kind) := HCLL.out _ _ hs 0 (by decide)
        have y1 : wr.cell? ⟨g, o + i * 16 + 1, none⟩ = some (.int .u32 sender) := HCLL.out _ _ hs 1 (by decide)
        have y2 : wr.cell? ⟨g, o + i * 16 + 2, none⟩ = some (.int .u32 media) := HCLL.out _ _ hs 2 (by decide)
        have y3 : wr.cell? ⟨g, o + i * 16 + 3, none⟩ = some (.int .u64 ntp) := HCLL.out _ _ hs 3 (by decide)
        have y4 : wr.cell? ⟨g, o + i * 16 + 4, none⟩ = some (.int .u32 rtp) := HCLL.out _ _ hs 4 (by decide)
        have y5 : wr.cell? ⟨g, o + i * 16 + 5, none⟩ = some (.int .u32 pkts) := HCLL.out _ _ hs 5 (by decide)
        have y6 : wr.cell? ⟨g, o + i * 16 + 6, none⟩ = some (.int .u32 octs) := HCLL.out _ _ hs 6 (by decide)
        have y7 : wr.cell? ⟨g, o + i * 16 + 7, none⟩ = some (.slice rA reps.length rz) := HCLL.out _ _ hs 7 (by decide)
        have y8 : wr.cell? ⟨g, o + i * 16 + 8, none⟩ = some (.string name) := HCLL.out _ _ hs 8 (by decide)
        have y9 : wr.cell? ⟨g, o + i * 16 + 9, none⟩ = some (.slice sA srcs.length sz) := HCLL.out _ _ hs 9 (by decide)
        have y10 : wr.cell? ⟨g, o + i * 16 + 10, none⟩ = some (.slice qA seqs.length qz) := HCLL.out _ _ hs 10 (by decide)
        have y11 : wr.cell? ⟨g, o + i * 16 + 11, none⟩ = some (.int .u16 base) := HCLL.out _ _ hs 11 (by decide)
        have y12 : wr.cell? ⟨g, o + i * 16 + 12, none⟩ = some (.int .u32 ref) := HCLL.out _ _ hs 12 (by decide)
        have y13 : wr.cell? ⟨g, o + i * 16 + 13, none⟩ = some (.int .u8 count) := HCLL.out _ _ hs 13 (by decide)
        have y14 : wr.cell? ⟨g, o + i * 16 + 14, none⟩ = some (.slice aA arrs.length az) := HCLL.out _ _ hs 14 (by decide)
        have y15 : wr.cell? ⟨g, o + i * 16 + 15, none⟩ = some (.slice wA wants.length wz) := HCLL.out _ _ hs 15 (by decide)
        have HG := Lib.hid (goodR J _ _ kind sender media ntp rtp pkts octs base ref count name reps srcs seqs arrs wants rA rz sA sz qA qz aA az wA wz cr hraw.lr (fun x hx => (hraw.reps x hx).total) cq hraw.lq ca hraw.la hraw.ln cs hraw.ls cw hraw.lw hraw.ref hs)
        have HR := Lib.hid (And.intro hraw (And.intro htk (And.intro hmem hall)))
        have HCC := Lib.hid (And.intro cr (And.intro cs (And.intro cq (And.intro ca cw))))
        have HLE := Lib.hid hle
        have HNE := Lib.hid hne
        clear hs hraw htk hmem hall cr cs cq ca cw hle hcl hne
        go_wp2_with fail
        go_at_call 17
        refine HG.out.mono ?_
        clear HG y0 y1 y2 y3 y4 y5 y6 y7 y8 y9 y10 y11 y12 y13 y14 y15
        rintro e w2 ⟨_, _, _, rfl, _, hs, rfl, rfl, rfl⟩
        have y0 : w2.cell? ⟨g, o + i * 16, none⟩ = some (.int .i64 kind) := HCLL.out _ _ hs 0 (by decide)
        have y1 : w2.cell? ⟨g, o + i * 16 + 1, none⟩ = some (.int .u32 sender) := HCLL.out _ _ hs 1 (by decide)
        have y2 : w2.cell? ⟨g, o + i * 16 + 2, none⟩ = some (.int .u32 media) := HCLL.out _ _ hs 2 (by decide)
        have y3 : w2.cell? ⟨g, o + i * 16 + 3, none⟩ = some (.int .u64 ntp) := HCLL.out _ _ hs 3 (by decide)
        have y4 : w2.cell? ⟨g, o + i * 16 + 4, none⟩ = some (.int .u32 rtp) := HCLL.out _ _ hs 4 (by decide)
        have y5 : w2.cell? ⟨g, o + i * 16 + 5, none⟩ = some (.int .u32 pkts) := HCLL.out _ _ hs 5 (by decide)
        have y6 : w2.cell? ⟨g, o + i * 16 + 6, none⟩ = some (.int .u32 octs) := HCLL.out _ _ hs 6 (by decide)
        have y7 : w2.cell? ⟨g, o + i * 16 + 7, none⟩ = some (.slice rA reps.length rz) := HCLL.out _ _ hs 7 (by decide)
        have y8 : w2.cell? ⟨g, o + i * 16 + 8, none⟩ = some (.string name) := HCLL.out _ _ hs 8 (by decide)
        have y9 : w2.cell? ⟨g, o + i * 16 + 9, none⟩ = some (.slice sA srcs.length sz) := HCLL.out _ _ hs 9 (by decide)
        have y10 : w2.cell? ⟨g, o + i * 16 + 10, none⟩ = some (.slice qA seqs.length qz) := HCLL.out _ _ hs 10 (by decide)
        have y11 : w2.cell? ⟨g, o + i * 16 + 11, none⟩ = some (.int .u16 base) := HCLL.out _ _ hs 11 (by decide)
        have y12 : w2.cell? ⟨g, o + i * 16 + 12, none⟩ = some (.int .u32 ref) := HCLL.out _ _ hs 12 (by decide)
        have y13 : w2.cell? ⟨g, o + i * 16 + 13, none⟩ = some (.int .u8 count) := HCLL.out _ _ hs 13 (by decide)
        have y14 : w2.cell? ⟨g, o + i * 16 + 14, none⟩ = some (.slice aA arrs.length az) := HCLL.out _ _ hs 14 (by decide)
        have y15 : w2.cell? ⟨g, o + i * 16 + 15, none⟩ = some (.slice wA wants.length wz) := HCLL.out _ _ hs 15 (by decide)
        by_cases hg : Good (⟨kind, sender, media, ntp, rtp, pkts, octs, reps, name, srcs, seqs, base, ref, count, arrs, wants⟩ : Pk)
        · skip
          rw [goodB_yes hg]
          have HC2 := Lib.hid (buildP J _ w2 kind sender media ntp rtp pkts octs base ref count name reps srcs seqs arrs wants rA rz sA sz qA qz aA az wA wz HCC.out.1 HCC.out.2.1 HCC.out.2.2.1 HCC.out.2.2.2.1 HCC.out.2.2.2.2 (HR.out.1.ok hg) hg hs)
          have HGG := Lib.hid hg
          have HPL := Lib.hid (pack_len hg)
          clear hs hg
          go_wp2_with fail
          go_at_call 18
          refine HC2.out.mono ?_
          clear HC2 y0 y1 y2 y3 y4 y5 y6 y7 y8 y9 y10 y11 y12 y13 y14 y15
          rintro e w3 ⟨_, J2, _, rfl, hle2, hs, A2, c2, rfl, rfl⟩
          obtain ⟨pbs, hpb⟩ : ∃ z, z = packB (⟨kind, sender, media, ntp, rtp, pkts, octs, reps, name, srcs, seqs, base, ref, count, arrs, wants⟩ : Pk) := ⟨_, rfl⟩
          rw [← hpb] at hs ⊢
          obtain ⟨J3, hle3, hs3, hb3⟩ := hs.freezeRow
          have HB := Lib.hid (show RoB pbs (.slice A2 pbs.length c2) J3 from ⟨A2, c2, rfl, hb3⟩)
          obtain ⟨bl, hbe⟩ : ∃ z, z = ((pks ps).take i).flatMap packB := ⟨_, rfl⟩
          have hbn : bl.length = n := by rw [hbe]; exact HNE.out.symm
          rw [← hbe, ← hbn] at hs3
          have HS3 := Lib.hid hs3
          have HBE := Lib.hid (And.intro hbe (And.intro hbn hpb))
          have HLE3 := Lib.hid ((HLE.out.trans hle2).trans hle3)
          clear hs hle2 hle3 hs3 hb3 hbe hbn hpb
          go_wp2_with (at_builtin; refine wpList_appB rfl _ _ rfl J3 _ _ _ _ _ (by rw [HBE.out.2.1]; rfl) rfl HS3.out HB.out (by have h1 := HPL.out.2; rw [← HBE.out.2.2] at h1; have h2 := HBE.out.2.1; omega) ?_)
          intro v4 w4 hs4
          obtain ⟨A5, c5, rfl⟩ := own_form (show World.ownsRow _ 0 5 1 v4 _ _ from St.at hs4 0 rfl)
          obtain ⟨n5, hn5⟩ : ∃ n5, n5 = (bl ++ pbs).length := ⟨_, rfl⟩
          have hs5 := show St J3 _ w4 from hs4
          rw [← hn5] at hs5 ⊢
          have HFM := Lib.hid (show ((pks ps).take (i + 1)).flatMap packB = bl ++ pbs by rw [HR.out.2.1, List.flatMap_append, List.flatMap_singleton, HBE.out.1, HBE.out.2.2])
          have HAL := Lib.hid (show ∀ p ∈ (pks ps).take (i + 1), Good p by
            rw [HR.out.2.1]
            intro p hp
            rcases List.mem_append.1 hp with hp | hp
            · exact HR.out.2.2.2 p hp
            · rw [List.mem_singleton.1 hp]; exact HGG.out)
          have hn6 : n5 ≤ 24080 := by
            rw [hn5, ← HFM.out]
            exact packs_len (n := 8) (by rw [List.length_take]; omega) HAL.out
          have HN5 := Lib.hid hn5
          have HS5 := Lib.hid hs5
          clear hs4 hs5 HS3 HB hn5
          go_wp2
          go_roundw
          case rel => exact ⟨A5, n5, c5, i + 1, rfl, by go_num, by omega, hn6, Lib.hid ⟨HAL.out, J3, HLE3.out, by rw [HFM.out]; exact HN5.out, by rw [HFM.out]; exact HS5.out⟩⟩
          case measure => simp [intOf]; omega
        · skip
          rw [goodB_no hg]
          have HF := Lib.hid (Ret.mk (Q := fun v _ M' => BuiltAs M (pks ps) v M') HLE.out (hs.drop) (show BuiltAs M (pks ps) _ _ from .inr ⟨Built.no_good HR.out.2.2.1 hg, rfl, rfl⟩))
          clear hs hg
          go_wp2
          go_returns
          exact HF.out
      · skip
        have hin : i = ps.length := by omega
        rw [List.take_of_length_le (by omega)] at hs hall hne
        subst hin
        obtain ⟨bl, hbe⟩ : ∃ z, z = (pks ps).flatMap packB := ⟨_, rfl⟩
        rw [← hbe] at hs hne
        by_cases hm : n ≤ 1500
        · have HF := Lib.hid (Ret.mk (Q := fun v _ M' => BuiltAs M (pks ps) v M') hle hs (show BuiltAs M (pks ps) _ _ from .inl ⟨⟨⟨by omega, by omega⟩, ⟨x0.1, pks r0, by rw [HX0.out]; rfl, HKK.out⟩, hall, by rw [← hbe, ← hne]; exact hm⟩, _, rfl, by rw [← hbe, ← hne]⟩))
          clear hs hbe hne hall
          go_wp2
          go_returns
          exact HF.out
        · have HF := Lib.hid (Ret.mk (Q := fun v _ M' => BuiltAs M (pks ps) v M') hle hs.drop (show BuiltAs M (pks ps) _ _ from .inr ⟨Built.no_most (by rw [← hbe, ← hne]; exact hm), rfl, rfl⟩))
          have hm2 : (1500 : Int) < (n : Int) := by omega
          clear hs hbe hne hall
          go_wp2
          go_returns
          exact HF.out
end Go.Proofs.Ytddopbbmgpnjjaa
