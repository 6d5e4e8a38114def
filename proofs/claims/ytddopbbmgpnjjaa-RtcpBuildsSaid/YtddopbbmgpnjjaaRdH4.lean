/- the document's build of a packet of kind 4. -/
import Derived.Test.YtddopbbmgpnjjaaRdH
namespace Go.Proofs.Ytddopbbmgpnjjaa
open Go.RowKit
set_option linter.unusedSimpArgs false

set_option maxRecDepth 100000 in
set_option maxHeartbeats 40000000 in
theorem build1 (I : Img) (M : List Res) (w : World) (sender : Int) (media : Int) (ntp : Int) (rtp : Int) (pkts : Int) (octs : Int) (base : Int) (ref : Int) (count : Int) (name : ByteArray) (reps : List Rp) (srcs seqs arrs : List Int) (wants : List Wn) (rA : Option Addr) (rz : Nat) (sA : Option Addr) (sz : Nat) (qA : Option Addr) (qz : Nat) (aA : Option Addr) (az : Nat) (wA : Option Addr) (wz : Nat) (cr : Cells I rA (flat repC reps)) (cs : Cells I sA (flat u32C srcs)) (cq : Cells I qA (flat u16C seqs)) (ca : Cells I aA (flat intC arrs)) (cw : Cells I wA (flat wnC wants)) (hok : PkOk (⟨1, sender, media, ntp, rtp, pkts, octs, reps, name, srcs, seqs, base, ref, count, arrs, wants⟩ : Pk)) (hg : Good (⟨1, sender, media, ntp, rtp, pkts, octs, reps, name, srcs, seqs, base, ref, count, arrs, wants⟩ : Pk)) (hst : St I M w) :
    Calls Try.prog 18 #[.agg #[.int .i64 1, .int .u32 sender, .int .u32 media, .int .u64 ntp, .int .u32 rtp, .int .u32 pkts, .int .u32 octs, .slice rA reps.length rz, .string name, .slice sA srcs.length sz, .slice qA seqs.length qz, .int .u16 base, .int .u32 ref, .int .u8 count, .slice aA arrs.length az, .slice wA wants.length wz]] w (Bui I M (⟨1, sender, media, ntp, rtp, pkts, octs, reps, name, srcs, seqs, base, ref, count, arrs, wants⟩ : Pk)) := by
  have hs1 := hst.alloc 56 #[.int .i64 1, .int .u32 sender, .int .u32 media, .int .u64 ntp, .int .u32 rtp, .int .u32 pkts, .int .u32 octs, .slice rA reps.length rz, .string name, .slice sA srcs.length sz, .slice qA seqs.length qz, .int .u16 base, .int .u32 ref, .int .u8 count, .slice aA arrs.length az, .slice wA wants.length wz]
  have HOK := Lib.hid hok
  have HGD := Lib.hid hg
  have hbl := body_len hg
  obtain ⟨n1, n2, n3, n4, n5, n6⟩ := good_lens hg
  have HLOW := Lib.hid (lowP_ok hg)
  simp only [] at n1 n2 n3 n4 n5 n6
  have HCR := Lib.hid cr
  have HCS := Lib.hid cs
  have HCW := Lib.hid cw
  have HCQ := Lib.hid cq
  have HCA := Lib.hid ca
  clear cr cs cq ca cw hok hg hst
  obtain ⟨B, hB⟩ : ∃ B, B = bodyL (⟨1, sender, media, ntp, rtp, pkts, octs, reps, name, srcs, seqs, base, ref, count, arrs, wants⟩ : Pk) := ⟨_, rfl⟩
  rw [← hB] at hbl
  obtain ⟨low, hlow⟩ : ∃ low, low = lowP (⟨1, sender, media, ntp, rtp, pkts, octs, reps, name, srcs, seqs, base, ref, count, arrs, wants⟩ : Pk) := ⟨_, rfl⟩
  obtain ⟨q, hq⟩ : ∃ q, q = w.heap.size := ⟨_, rfl⟩
  rw [← hq] at hs1
  have HBE := Lib.hid hB
  have HLE0 := Lib.hid hlow
  clear hB hlow
  go_enter Try.func18, Try.ntmps18
  go_upto_region 1 with fail
  rw [← hq]
  clear hq
  generalize World.alloc w _ = W at hs1 ⊢
  obtain ⟨hc1, hf1, hl1⟩ := Blk.all (hs1.at 0 rfl)
  have HST := Lib.hid hs1
  clear hs1
  go_upto_region 13 with fail
  clear hc1 hf1 hl1
  have HSS := Lib.hid (fun (J : Img) (w' : World) (_ : I.le J) (hs : St J (bk q 56 #[.int .i64 1, .int .u32 sender, .int .u32 media, .int .u64 ntp, .int .u32 rtp, .int .u32 pkts, .int .u32 octs, .slice rA reps.length rz, .string name, .slice sA srcs.length sz, .slice qA seqs.length qz, .int .u16 base, .int .u32 ref, .int .u8 count, .slice aA arrs.length az, .slice wA wants.length wz] :: M) w') => (show ∀ i, w'.cell? ⟨q, i, none⟩ = (#[.int .i64 1, .int .u32 sender, .int .u32 media, .int .u64 ntp, .int .u32 rtp, .int .u32 pkts, .int .u32 octs, .slice rA reps.length rz, .string name, .slice sA srcs.length sz, .slice qA seqs.length qz, .int .u16 base, .int .u32 ref, .int .u8 count, .slice aA arrs.length az, .slice wA wants.length wz] : Array Value)[i]? from (Blk.all (hs.at 0 rfl)).1))
  have ho1 := HOK.out.ntp
  simp only [] at ho1
  obtain ⟨p1, p2⟩ := ho1
  have hw1 : IntKind.u32.wrap (ntp / 4294967296) = ntp / 4294967296 := wrap_u32 (by omega) (by omega)
  have hw2 : IntKind.u32.wrap ntp = ntp % 4294967296 := by simp only [IntKind.wrap, IntKind.signed, IntKind.bits]; simp
  obtain ⟨rb, hrb⟩ : ∃ rb, rb = reps.flatMap repL := ⟨_, rfl⟩
  have HRB := Lib.hid hrb
  have HLB := Lib.hid (show rb.length ≤ 744 by rw [hrb]; have := fm_len (f := repL) (s := 24) repL_len reps; omega)
  clear hrb
  refine wp_region_held_drew (S := fun w' => ∀ i, w'.cell? ⟨q, i, none⟩ = (#[.int .i64 1, .int .u32 sender, .int .u32 media, .int .u64 ntp, .int .u32 rtp, .int .u32 pkts, .int .u32 octs, .slice rA reps.length rz, .string name, .slice sA srcs.length sz, .slice qA seqs.length qz, .int .u16 base, .int .u32 ref, .int .u8 count, .slice aA arrs.length az, .slice wA wants.length wz] : Array Value)[i]?) (by kernel_rfl) (HSS.out _ _ (.refl _) HST.out.drew) (fun hHeld => ?_)
  refine wpAnyH_take (i := 0) (oi := _) (v := ?_) rfl (by kernel_rfl) (by kernel_rfl) (by kernel_rfl) (fun _ _ _ h => h) (Or.inl ⟨by rfl, ?_⟩) (by assumption) ?_
  rotate_left
  · (intro w hSw; (try dsimp only at hSw); go_simp; try with_reducible rfl)
  try simp only [Act.put, List.getElem_toArray, List.getElem_cons_zero, List.getElem_cons_succ, List.setIfInBounds_toArray, List.set_cons_zero, List.set_cons_succ]
  refine wpAnyH_take (i := 1) (oi := _) (v := ?_) rfl (by kernel_rfl) (by kernel_rfl) (by kernel_rfl) (fun _ _ _ h => h) (Or.inl ⟨by rfl, ?_⟩) (by assumption) ?_
  rotate_left
  · (intro w hSw; (try dsimp only at hSw); go_simp; try with_reducible rfl)
  try simp only [Act.put, List.getElem_toArray, List.getElem_cons_zero, List.getElem_cons_succ, List.setIfInBounds_toArray, List.set_cons_zero, List.set_cons_succ]
  refine wpAnyH_take (i := 3) (oi := _) (v := ?_) rfl (by kernel_rfl) (by kernel_rfl) (by kernel_rfl) (fun _ _ _ h => h) (Or.inl ⟨by rfl, ?_⟩) (by assumption) ?_
  rotate_left
  · (intro w hSw; (try dsimp only at hSw); go_simp; try with_reducible rfl)
  try simp only [Act.put, List.getElem_toArray, List.getElem_cons_zero, List.getElem_cons_succ, List.setIfInBounds_toArray, List.set_cons_zero, List.set_cons_succ]
  refine wpAnyH_take (i := 4) (oi := _) (v := ?_) rfl (by kernel_rfl) (by kernel_rfl) (by kernel_rfl) (fun _ _ _ h => h) (Or.inl ⟨by rfl, ?_⟩) (by assumption) ?_
  rotate_left
  · (intro w hSw; (try dsimp only at hSw); go_simp; try with_reducible rfl)
  try simp only [Act.put, List.getElem_toArray, List.getElem_cons_zero, List.getElem_cons_succ, List.setIfInBounds_toArray, List.set_cons_zero, List.set_cons_succ]
  refine wpAnyH_take (i := 5) (oi := _) (v := ?_) rfl (by kernel_rfl) (by kernel_rfl) (by kernel_rfl) (fun _ _ _ h => h) (Or.inl ⟨by rfl, ?_⟩) (by assumption) ?_
  rotate_left
  · (intro w hSw; (try dsimp only at hSw); go_simp; try with_reducible rfl)
  try simp only [Act.put, List.getElem_toArray, List.getElem_cons_zero, List.getElem_cons_succ, List.setIfInBounds_toArray, List.set_cons_zero, List.set_cons_succ]
  refine wpAnyH_take (i := 6) (oi := _) (v := ?_) rfl (by kernel_rfl) (by kernel_rfl) (by kernel_rfl) (fun _ _ _ h => h) (Or.inl ⟨by rfl, ?_⟩) (by assumption) ?_
  rotate_left
  · (intro w hSw; (try dsimp only at hSw); go_simp; try with_reducible rfl)
  try simp only [Act.put, List.getElem_toArray, List.getElem_cons_zero, List.getElem_cons_succ, List.setIfInBounds_toArray, List.set_cons_zero, List.set_cons_succ]
  refine wpAnyH_take (i := 8) (oi := _) (v := ?_) rfl (by kernel_rfl) (by kernel_rfl) (by kernel_rfl) (fun _ _ _ h => h) (Or.inl ⟨by rfl, ?_⟩) (by assumption) ?_
  rotate_left
  · (intro w hSw; (try dsimp only at hSw); go_simp; try with_reducible rfl)
  try simp only [Act.put, List.getElem_toArray, List.getElem_cons_zero, List.getElem_cons_succ, List.setIfInBounds_toArray, List.set_cons_zero, List.set_cons_succ]
  refine wpAnyH_take (i := 9) (oi := _) (v := ?_) rfl (by kernel_rfl) (by kernel_rfl) (by kernel_rfl) (fun _ _ _ h => h) (Or.inl ⟨by rfl, ?_⟩) (by assumption) ?_
  rotate_left
  · (intro w hSw; (try dsimp only at hSw); go_simp; try with_reducible rfl)
  try simp only [Act.put, List.getElem_toArray, List.getElem_cons_zero, List.getElem_cons_succ, List.setIfInBounds_toArray, List.set_cons_zero, List.set_cons_succ]
  refine wpAnyH_take (i := 10) (oi := _) (v := ?_) rfl (by kernel_rfl) (by kernel_rfl) (by kernel_rfl) (fun _ _ _ h => h) (Or.inl ⟨by rfl, ?_⟩) (by assumption) ?_
  rotate_left
  · (intro w hSw; (try dsimp only at hSw); go_simp; try with_reducible rfl)
  try simp only [Act.put, List.getElem_toArray, List.getElem_cons_zero, List.getElem_cons_succ, List.setIfInBounds_toArray, List.set_cons_zero, List.set_cons_succ]
  refine wpAnyH_take (i := 12) (oi := _) (v := ?_) rfl (by kernel_rfl) (by kernel_rfl) (by kernel_rfl) (fun _ _ _ h => h) (Or.inl ⟨by rfl, ?_⟩) (by assumption) ?_
  rotate_left
  · (intro w hSw; (try dsimp only at hSw); go_simp; try with_reducible rfl)
  try simp only [Act.put, List.getElem_toArray, List.getElem_cons_zero, List.getElem_cons_succ, List.setIfInBounds_toArray, List.set_cons_zero, List.set_cons_succ]
  refine wpAnyH_take (i := 13) (oi := _) (v := ?_) rfl (by kernel_rfl) (by kernel_rfl) (by kernel_rfl) (fun _ _ _ h => h) (Or.inl ⟨by rfl, ?_⟩) (by assumption) ?_
  rotate_left
  · (intro w hSw; (try dsimp only at hSw); go_simp; try with_reducible rfl)
  try simp only [Act.put, List.getElem_toArray, List.getElem_cons_zero, List.getElem_cons_succ, List.setIfInBounds_toArray, List.set_cons_zero, List.set_cons_succ]
  refine wpAnyH_take (i := 15) (oi := _) (v := ?_) rfl (by kernel_rfl) (by kernel_rfl) (by kernel_rfl) (fun _ _ _ h => h) (Or.inl ⟨by rfl, ?_⟩) (by assumption) ?_
  rotate_left
  · (intro w hSw; (try dsimp only at hSw); go_simp; try with_reducible rfl)
  try simp only [Act.put, List.getElem_toArray, List.getElem_cons_zero, List.getElem_cons_succ, List.setIfInBounds_toArray, List.set_cons_zero, List.set_cons_succ]
  refine wpAnyH_take (i := 16) (oi := _) (v := ?_) rfl (by kernel_rfl) (by kernel_rfl) (by kernel_rfl) (fun _ _ _ h => h) (Or.inl ⟨by rfl, ?_⟩) (by assumption) ?_
  rotate_left
  · (intro w hSw; (try dsimp only at hSw); go_simp; try with_reducible rfl)
  try simp only [Act.put, List.getElem_toArray, List.getElem_cons_zero, List.getElem_cons_succ, List.setIfInBounds_toArray, List.set_cons_zero, List.set_cons_succ]
  refine wpAnyH_take (i := 18) (oi := _) (v := ?_) rfl (by kernel_rfl) (by kernel_rfl) (by kernel_rfl) (fun _ _ _ h => h) (Or.inl ⟨by rfl, ?_⟩) (by assumption) ?_
  rotate_left
  · (intro w hSw; (try dsimp only at hSw); go_simp; try with_reducible rfl)
  try simp only [Act.put, List.getElem_toArray, List.getElem_cons_zero, List.getElem_cons_succ, List.setIfInBounds_toArray, List.set_cons_zero, List.set_cons_succ]
  refine wpAnyH_take (i := 19) (oi := _) (v := ?_) rfl (by kernel_rfl) (by kernel_rfl) (by kernel_rfl) (fun _ _ _ h => h) (Or.inl ⟨by rfl, ?_⟩) (by assumption) ?_
  rotate_left
  · (intro w hSw; (try dsimp only at hSw); go_simp; try with_reducible rfl)
  try simp only [Act.put, List.getElem_toArray, List.getElem_cons_zero, List.getElem_cons_succ, List.setIfInBounds_toArray, List.set_cons_zero, List.set_cons_succ]
  refine wpAnyH_take (i := 21) (oi := _) (v := ?_) rfl (by kernel_rfl) (by kernel_rfl) (by kernel_rfl) (fun _ _ _ h => h) (Or.inl ⟨by rfl, ?_⟩) (by assumption) ?_
  rotate_left
  · (intro w hSw; (try dsimp only at hSw); go_simp; try with_reducible rfl)
  try simp only [Act.put, List.getElem_toArray, List.getElem_cons_zero, List.getElem_cons_succ, List.setIfInBounds_toArray, List.set_cons_zero, List.set_cons_succ]
  refine wpAnyH_take (i := 22) (oi := _) (v := ?_) rfl (by kernel_rfl) (by kernel_rfl) (by kernel_rfl) (fun _ _ _ h => h) (Or.inl ⟨by rfl, ?_⟩) (by assumption) ?_
  rotate_left
  · (intro w hSw; (try dsimp only at hSw); go_simp; try with_reducible rfl)
  try simp only [Act.put, List.getElem_toArray, List.getElem_cons_zero, List.getElem_cons_succ, List.setIfInBounds_toArray, List.set_cons_zero, List.set_cons_succ]
  refine anyH_ro (I := I) (M := bk q 56 #[.int .i64 1, .int .u32 sender, .int .u32 media, .int .u64 ntp, .int .u32 rtp, .int .u32 pkts, .int .u32 octs, .slice rA reps.length rz, .string name, .slice sA srcs.length sz, .slice qA seqs.length qz, .int .u16 base, .int .u32 ref, .int .u8 count, .slice aA arrs.length az, .slice wA wants.length wz] :: M) (l := [(2, 49, u32B sender), (7, 54, u32B (ntp / 4294967296)), (11, 58, u32B (ntp % 4294967296)), (14, 61, u32B rtp), (17, 64, u32B pkts), (20, 67, u32B octs), (23, 70, rb)]) 3 (by kernel_rfl) (by simp only [List.map_cons, List.map_nil]; decide) (by simp only [List.map_cons, List.map_nil]; decide) HSS.out HST.out.drew ?_ ?_
  · refine List.forall_mem_cons.2 ⟨?_, List.forall_mem_cons.2 ⟨?_, List.forall_mem_cons.2 ⟨?_, List.forall_mem_cons.2 ⟨?_, List.forall_mem_cons.2 ⟨?_, List.forall_mem_cons.2 ⟨?_, List.forall_mem_cons.2 ⟨?_, fun _ h => by cases h⟩⟩⟩⟩⟩⟩⟩
    · refine CdStep.call (o := _) rfl rfl rfl rfl (fun _ _ => rfl) ?_ (fun J w hle hs => (four_frz J _ w (sender) (HOK.out.sender) hs).mono (fun _ _ h => h))
      intro xf; simp [Act.over, setAll, Act.eval, hw1, hw2]
    · refine CdStep.call (o := _) rfl rfl rfl rfl (fun _ _ => rfl) ?_ (fun J w hle hs => (four_frz J _ w (ntp / 4294967296) (⟨by omega, by omega⟩) hs).mono (fun _ _ h => h))
      intro xf; simp [Act.over, setAll, Act.eval, hw1, hw2]
    · refine CdStep.call (o := _) rfl rfl rfl rfl (fun _ _ => rfl) ?_ (fun J w hle hs => (four_frz J _ w (ntp % 4294967296) (⟨by omega, by omega⟩) hs).mono (fun _ _ h => h))
      intro xf; simp [Act.over, setAll, Act.eval, hw1, hw2]
    · refine CdStep.call (o := _) rfl rfl rfl rfl (fun _ _ => rfl) ?_ (fun J w hle hs => (four_frz J _ w (rtp) (HOK.out.rtp) hs).mono (fun _ _ h => h))
      intro xf; simp [Act.over, setAll, Act.eval, hw1, hw2]
    · refine CdStep.call (o := _) rfl rfl rfl rfl (fun _ _ => rfl) ?_ (fun J w hle hs => (four_frz J _ w (pkts) (HOK.out.pkts) hs).mono (fun _ _ h => h))
      intro xf; simp [Act.over, setAll, Act.eval, hw1, hw2]
    · refine CdStep.call (o := _) rfl rfl rfl rfl (fun _ _ => rfl) ?_ (fun J w hle hs => (four_frz J _ w (octs) (HOK.out.octs) hs).mono (fun _ _ h => h))
      intro xf; simp [Act.over, setAll, Act.eval, hw1, hw2]
    · refine CdStep.call (o := _) rfl rfl rfl rfl (fun _ _ => rfl) ?_ (fun J w hle hs => (frz_cast HRB.out (reportsR J _ w rA rz reps (HCR.out.mono hle) n1 HOK.out.reps hs)).mono (fun _ _ h => h))
      intro xf; simp [Act.over, setAll, Act.eval, hw1, hw2]
  · intro xf J w hle hs hx
    have r0 : RoB (u32B sender) (xf 49) J := hx (2, 49, u32B sender) (by simp)
    have r1 : RoB (u32B (ntp / 4294967296)) (xf 54) J := hx (7, 54, u32B (ntp / 4294967296)) (by simp)
    have r2 : RoB (u32B (ntp % 4294967296)) (xf 58) J := hx (11, 58, u32B (ntp % 4294967296)) (by simp)
    have r3 : RoB (u32B rtp) (xf 61) J := hx (14, 61, u32B rtp) (by simp)
    have r4 : RoB (u32B pkts) (xf 64) J := hx (17, 64, u32B pkts) (by simp)
    have r5 : RoB (u32B octs) (xf 67) J := hx (20, 67, u32B octs) (by simp)
    have r6 : RoB (rb) (xf 70) J := hx (23, 70, rb) (by simp)
    simp only [List.map_cons, List.map_nil, Act.over, setAll, List.foldl_cons, List.foldl_nil, List.setIfInBounds_toArray, List.set_cons_zero, List.set_cons_succ]
    generalize xf 49 = v49 at *
    obtain ⟨A49, c49, rfl, b49⟩ := r0
    generalize xf 54 = v54 at *
    obtain ⟨A54, c54, rfl, b54⟩ := r1
    generalize xf 58 = v58 at *
    obtain ⟨A58, c58, rfl, b58⟩ := r2
    generalize xf 61 = v61 at *
    obtain ⟨A61, c61, rfl, b61⟩ := r3
    generalize xf 64 = v64 at *
    obtain ⟨A64, c64, rfl, b64⟩ := r4
    generalize xf 67 = v67 at *
    obtain ⟨A67, c67, rfl, b67⟩ := r5
    generalize xf 70 = v70 at *
    obtain ⟨A70, c70, rfl, b70⟩ := r6
    clear hx
    refine wpAnyH_ready (rs := [24]) (by kernel_rfl) (by simp) ?_
    refine AllReadyH.cons (o := _) rfl (fun K hK => ?_) AllReadyH.nil
    go_simp
    try clear hHeld
    refine hK.out _ _ (HSS.out J _ hle (hs.grow _)) (fun hHeld => ?_)
    clear hK K
    try simp only [Act.put, List.getElem_toArray, List.getElem_cons_zero, List.getElem_cons_succ, List.setIfInBounds_toArray, List.set_cons_zero, List.set_cons_succ]
    obtain ⟨J2, hle2, hs2, hobj⟩ := (hs.alloc 24 #[.slice A49 (u32B sender).length c49, .slice A54 (u32B (ntp / 4294967296)).length c54, .slice A58 (u32B (ntp % 4294967296)).length c58, .slice A61 (u32B rtp).length c61, .slice A64 (u32B pkts).length c64, .slice A67 (u32B octs).length c67, .slice A70 (rb).length c70]).freezeBlk
    have hcs := Cells.ofBlk hobj
    refine wpAnyH_ready (rs := [25]) (by kernel_rfl) (by simp) ?_
    refine AllReadyH.cons (o := _) rfl (fun K hK => ?_) AllReadyH.nil
    go_simp
    go_at_call 35
    refine (joinR J2 (bk q 56 #[.int .i64 1, .int .u32 sender, .int .u32 media, .int .u64 ntp, .int .u32 rtp, .int .u32 pkts, .int .u32 octs, .slice rA reps.length rz, .string name, .slice sA srcs.length sz, .slice qA seqs.length qz, .int .u16 base, .int .u32 ref, .int .u8 count, .slice aA arrs.length az, .slice wA wants.length wz] :: M) _ (some ⟨w.heap.size, 0, none⟩) 7 [u32B sender, u32B (ntp / 4294967296), u32B (ntp % 4294967296), u32B rtp, u32B pkts, u32B octs, rb] [.slice A49 (u32B sender).length c49, .slice A54 (u32B (ntp / 4294967296)).length c54, .slice A58 (u32B (ntp % 4294967296)).length c58, .slice A61 (u32B rtp).length c61, .slice A64 (u32B pkts).length c64, .slice A67 (u32B octs).length c67, .slice A70 (rb).length c70] hcs ⟨⟨A49, c49, rfl, b49.mono hle2⟩, ⟨A54, c54, rfl, b54.mono hle2⟩, ⟨A58, c58, rfl, b58.mono hle2⟩, ⟨A61, c61, rfl, b61.mono hle2⟩, ⟨A64, c64, rfl, b64.mono hle2⟩, ⟨A67, c67, rfl, b67.mono hle2⟩, ⟨A70, c70, rfl, b70.mono hle2⟩, trivial⟩ (by simp) (by have := HLB.out; simp only [List.flatten_cons, List.flatten_nil, List.length_append, List.length_cons, List.length_nil, u32B_len, u16B_len]; omega) hs2).mono ?_
    rintro e w3 ⟨_, _, _, rfl, _, hs3, rfl, A3, c3, rfl, hc3, rfl⟩
    obtain ⟨fl, hfl⟩ : ∃ z : List UInt8, z = ([u32B sender, u32B (ntp / 4294967296), u32B (ntp % 4294967296), u32B rtp, u32B pkts, u32B octs, rb] : List (List UInt8)).flatten := ⟨_, rfl⟩
    rw [← hfl] at hs3 hc3 ⊢
    have HFLAT := Lib.hid hfl
    clear hfl
    try clear hHeld
    refine hK.out _ _ (HSS.out J2 _ (hle.trans hle2) hs3.drop) (fun hHeld => ?_)
    clear hK K
    try simp only [Act.put, List.getElem_toArray, List.getElem_cons_zero, List.getElem_cons_succ, List.setIfInBounds_toArray, List.set_cons_zero, List.set_cons_succ]
    refine wpAnyH_take (i := 26) (oi := _) (v := ?_) rfl (by kernel_rfl) (by kernel_rfl) (by kernel_rfl) (fun _ _ _ h => h) (Or.inl ⟨by rfl, ?_⟩) (by assumption) ?_
    rotate_left
    · (intro w hSw; (try dsimp only at hSw); go_simp; try with_reducible rfl)
    try simp only [Act.put, List.getElem_toArray, List.getElem_cons_zero, List.getElem_cons_succ, List.setIfInBounds_toArray, List.set_cons_zero, List.set_cons_succ]
    refine wpAnyH_done (by kernel_rfl) ?_ _
    have hbq : fl = B := by rw [HFLAT.out, HBE.out]; exact body1 HGD.out HRB.out
    subst hbq
    have HS := Lib.hid hs3
    have HLE := Lib.hid (hle.trans hle2)
    clear hs hs2 hs3 hHeld hle hle2 hcs hobj HFLAT
    generalize A3 = A4 at *
    go_upto_region 36 with fail
    go_loopw [3] (fun bv wr => ∃ (A : Option Addr) (n c : Nat), bv = .slice A n c ∧ n ≤ 4000 ∧ Hid (∃ (j : Nat) (J : Img), n = fl.length + j ∧ j ≤ (4 - fl.length % 4) % 4 ∧ I.le J ∧ St J (row 5 1 (.slice A n c) n (bvs (fl ++ List.replicate j 0)) :: bk q 56 #[.int .i64 1, .int .u32 sender, .int .u32 media, .int .u64 ntp, .int .u32 rtp, .int .u32 pkts, .int .u32 octs, .slice rA reps.length rz, .string name, .slice sA srcs.length sz, .slice qA seqs.length qz, .int .u16 base, .int .u32 ref, .int .u8 count, .slice aA arrs.length az, .slice wA wants.length wz] :: M) wr)) (fun bv _ => (4 - sliceLen bv % 4) % 4)
    case atStart => exact ⟨_, _, _, rfl, by omega, Lib.hid ⟨0, J2, rfl, Nat.zero_le _, HLE.out, by simpa using HS.out⟩⟩
    case round =>
      obtain ⟨A, n, c, rfl, hn, hh⟩ := hrel
      obtain ⟨j, J, hnj, hj, hle, hs⟩ := hh.out
      clear hh HS HLE
      have hln : (fl ++ List.replicate j 0).length = n := by rw [hnj]; simp
      have HLN := Lib.hid hln
      have HRP := Lib.hid (rep_snoc j)
      have HNJ := Lib.hid hnj
      by_cases hlt : j < (4 - fl.length % 4) % 4
      · have hm : ((n : Int) % 4 != 0) = true := by rw [bne_iff_ne]; omega
        obtain ⟨J3, hle3, hs3, hobj⟩ := (hs.alloc 5 #[.int .u8 0]).freezeBlk
        have HB1 := Lib.hid (show RoB [0] (.slice (some ⟨wr.heap.size, 0, none⟩) 1 1) J3 from ⟨_, 1, rfl, Byts.ofBlk hobj rfl⟩)
        obtain ⟨bl, hbe⟩ : ∃ bl, bl = fl ++ List.replicate j 0 := ⟨_, rfl⟩
        rw [← hbe] at hs3 hln
        rw [← hln] at hs3
        have HBL := Lib.hid hbe
        have HS3 := Lib.hid hs3
        have HLE := Lib.hid (hle.trans hle3)
        have HLT := Lib.hid hlt
        have HLL := Lib.hid hln
        clear hbe hle hle3 hs hs3 hobj hnj hj hln hlt
        go_wp2_with (at_builtin; refine wpList_appB rfl _ _ rfl J3 _ _ _ _ _ (by rw [HLL.out]; rfl) rfl HS3.out HB1.out (by have := HLL.out; simp only [List.length_cons, List.length_nil]; omega) ?_)
        intro v3 w3 hs4
        obtain ⟨A5, c5, rfl⟩ := own_form (show World.ownsRow _ 0 5 1 v3 _ _ from St.at hs4 0 rfl)
        have hl5 : (bl ++ [0]).length = n + 1 := by rw [List.length_append, HLL.out]; rfl
        have hs5 := show St J3 _ w3 from hs4
        rw [hl5] at hs5 ⊢
        have HS5 := Lib.hid hs5
        clear hs4 hs5 HS3 HB1 hl5
        go_wp2
        go_roundw
        case rel =>
          refine ⟨A5, n + 1, c5, rfl, by have := HLT.out; have := HNJ.out; omega, Lib.hid ⟨j + 1, J3, by have := HNJ.out; omega, by have := HLT.out; omega, HLE.out, ?_⟩⟩
          have := HS5.out
          rw [HBL.out, List.append_assoc, ← HRP.out] at this
          exact this
        case measure =>
          have h1 := HNJ.out
          have h2 := HLT.out
          show (4 - (n + 1) % 4) % 4 < (4 - n % 4) % 4
          omega
      · have hm : ((n : Int) % 4 != 0) = false := by rw [bne_eq_false_iff_eq]; omega
        have hjj : j = (4 - fl.length % 4) % 4 := by omega
        rw [hjj, even_rep] at hs hln
        obtain ⟨E, hE⟩ : ∃ E, E = evenL fl := ⟨_, rfl⟩
        rw [← hE] at hs hln
        have HE := Lib.hid hE
        obtain ⟨J3, hle3, hs3, hb3⟩ := hs.freezeRow
        have HS3 := Lib.hid hs3
        have HB3 := Lib.hid (show Byts J3 A E from hb3)
        have HLE := Lib.hid (hle.trans hle3)
        have HLL := Lib.hid hln
        clear hs hs3 hb3 hle hle3 hE hln hnj hj hjj hlt
        have hq1 : (reps.length : Int) ≤ 31 := by omega
        have HV := Lib.hid (show [byteOf (128 + (reps.length : Int)), byteOf 200] ++ u16B ((E.length / 4 : Nat) : Int) ++ E = packB (⟨1, sender, media, ntp, rtp, pkts, octs, reps, name, srcs, seqs, base, ref, count, arrs, wants⟩ : Pk) by
          have e1 : 128 + low = 128 + (reps.length : Int) := by rw [HLE0.out]; rw [low1 HGD.out]
          rw [← e1, HLE0.out, HE.out, HBE.out]
          rfl)
        obtain ⟨J4, hle4, hs4, hobj⟩ := (HS3.out.alloc 5 #[.int .u8 (128 + (reps.length : Int)), .int .u8 200]).freezeBlk
        have HB4 := Lib.hid (show Byts J4 (some ⟨wr.heap.size, 0, none⟩) [byteOf (128 + (reps.length : Int)), byteOf 200] from Byts.ofBlk hobj (lit_two (by omega) (by omega)))
        have HT := Lib.hid (twoR J4 _ _ ((n : Int) / 4) hs4)
        have HLE4 := Lib.hid hle4
        clear hle4 hs4 hobj HS3
        go_wp2_with fail
        go_at_call 39
        refine HT.out.mono ?_
        clear HT
        rintro e w2 ⟨_, _, _, rfl, _, hs1, rfl, A6, c6, rfl, hc6, rfl⟩
        obtain ⟨J5, hle5, hs5, hb5⟩ := hs1.freezeRow
        have hb5 : Byts J5 A6 (u16B ((n : Int) / 4 % 65536)) := hb5
        obtain ⟨J6, hle6, hs6, hobj⟩ := (hs5.alloc 24 #[.slice (some ⟨wr.heap.size, 0, none⟩) 2 2, .slice A6 (u16B ((n : Int) / 4 % 65536)).length c6, .slice A n c]).freezeBlk
        have hcs := Cells.ofBlk hobj
        have HJ := Lib.hid (joinR J6 (bk q 56 #[.int .i64 1, .int .u32 sender, .int .u32 media, .int .u64 ntp, .int .u32 rtp, .int .u32 pkts, .int .u32 octs, .slice rA reps.length rz, .string name, .slice sA srcs.length sz, .slice qA seqs.length qz, .int .u16 base, .int .u32 ref, .int .u8 count, .slice aA arrs.length az, .slice wA wants.length wz] :: M) _ (some ⟨w2.heap.size, 0, none⟩) 3 [[byteOf (128 + (reps.length : Int)), byteOf 200], u16B ((n : Int) / 4 % 65536), E] [.slice (some ⟨wr.heap.size, 0, none⟩) 2 2, .slice A6 (u16B ((n : Int) / 4 % 65536)).length c6, .slice A n c] hcs ⟨⟨_, 2, rfl, (HB4.out.mono hle5).mono hle6⟩, ⟨A6, c6, rfl, hb5.mono hle6⟩, ⟨A, c, by rw [HLL.out], ((HB3.out.mono HLE4.out).mono hle5).mono hle6⟩, trivial⟩ (by simp) (by have := HLL.out; simp only [List.flatten_cons, List.flatten_nil, List.length_append, List.length_cons, List.length_nil, u16B_len]; omega) hs6)
        have HL := Lib.hid (((HLE.out.trans HLE4.out).trans hle5).trans hle6)
        clear hs1 hs5 hs6 hb5 hc6 hobj hcs hle5 hle6 HB3 HB4
        go_wp2_with fail
        go_at_call 35
        refine HJ.out.mono ?_
        clear HJ
        rintro e w4 ⟨_, _, _, rfl, _, hs7, rfl, A7, c7, rfl, hc7, rfl⟩
        have HPE := Lib.hid (show ([[byteOf (128 + (reps.length : Int)), byteOf 200], u16B ((n : Int) / 4 % 65536), E] : List (List UInt8)).flatten = packB (⟨1, sender, media, ntp, rtp, pkts, octs, reps, name, srcs, seqs, base, ref, count, arrs, wants⟩ : Pk) by
          rw [← HV.out, HLL.out]
          have e2 : (n : Int) / 4 % 65536 = ((n / 4 : Nat) : Int) := by omega
          rw [e2]
          simp)
        rw [HPE.out] at hs7 hc7 ⊢
        have HF := Lib.hid (show Bui I M (⟨1, sender, media, ntp, rtp, pkts, octs, reps, name, srcs, seqs, base, ref, count, arrs, wants⟩ : Pk) (.returned _) w4 from Ret.mk HL.out (St.swap1 hs7).drop ⟨A7, c7, rfl, rfl⟩)
        clear hs7 hc7 HPE HV
        generalize packB (⟨1, sender, media, ntp, rtp, pkts, octs, reps, name, srcs, seqs, base, ref, count, arrs, wants⟩ : Pk) = pbs at *
        go_wp2
        go_returns
        exact HF.out
end Go.Proofs.Ytddopbbmgpnjjaa
namespace Go.Proofs.Ytddopbbmgpnjjaa
open Go.RowKit
set_option linter.unusedSimpArgs false

set_option maxRecDepth 100000 in
set_option maxHeartbeats 40000000 in
theorem build2 (I : Img) (M : List Res) (w : World) (sender : Int) (media : Int) (ntp : Int) (rtp : Int) (pkts : Int) (octs : Int) (base : Int) (ref : Int) (count : Int) (name : ByteArray) (reps : List Rp) (srcs seqs arrs : List Int) (wants : List Wn) (rA : Option Addr) (rz : Nat) (sA : Option Addr) (sz : Nat) (qA : Option Addr) (qz : Nat) (aA : Option Addr) (az : Nat) (wA : Option Addr) (wz : Nat) (cr : Cells I rA (flat repC reps)) (cs : Cells I sA (flat u32C srcs)) (cq : Cells I qA (flat u16C seqs)) (ca : Cells I aA (flat intC arrs)) (cw : Cells I wA (flat wnC wants)) (hok : PkOk (⟨2, sender, media, ntp, rtp, pkts, octs, reps, name, srcs, seqs, base, ref, count, arrs, wants⟩ : Pk)) (hg : Good (⟨2, sender, media, ntp, rtp, pkts, octs, reps, name, srcs, seqs, base, ref, count, arrs, wants⟩ : Pk)) (hst : St I M w) :
    Calls Try.prog 18 #[.agg #[.int .i64 2, .int .u32 sender, .int .u32 media, .int .u64 ntp, .int .u32 rtp, .int .u32 pkts, .int .u32 octs, .slice rA reps.length rz, .string name, .slice sA srcs.length sz, .slice qA seqs.length qz, .int .u16 base, .int .u32 ref, .int .u8 count, .slice aA arrs.length az, .slice wA wants.length wz]] w (Bui I M (⟨2, sender, media, ntp, rtp, pkts, octs, reps, name, srcs, seqs, base, ref, count, arrs, wants⟩ : Pk)) := by
  have hs1 := hst.alloc 56 #[.int .i64 2, .int .u32 sender, .int .u32 media, .int .u64 ntp, .int .u32 rtp, .int .u32 pkts, .int .u32 octs, .slice rA reps.length rz, .string name, .slice sA srcs.length sz, .slice qA seqs.length qz, .int .u16 base, .int .u32 ref, .int .u8 count, .slice aA arrs.length az, .slice wA wants.length wz]
  have HOK := Lib.hid hok
  have HGD := Lib.hid hg
  have hbl := body_len hg
  obtain ⟨n1, n2, n3, n4, n5, n6⟩ := good_lens hg
  have HLOW := Lib.hid (lowP_ok hg)
  simp only [] at n1 n2 n3 n4 n5 n6
  have HCR := Lib.hid cr
  have HCS := Lib.hid cs
  have HCW := Lib.hid cw
  have HCQ := Lib.hid cq
  have HCA := Lib.hid ca
  clear cr cs cq ca cw hok hg hst
  obtain ⟨B, hB⟩ : ∃ B, B = bodyL (⟨2, sender, media, ntp, rtp, pkts, octs, reps, name, srcs, seqs, base, ref, count, arrs, wants⟩ : Pk) := ⟨_, rfl⟩
  rw [← hB] at hbl
  obtain ⟨low, hlow⟩ : ∃ low, low = lowP (⟨2, sender, media, ntp, rtp, pkts, octs, reps, name, srcs, seqs, base, ref, count, arrs, wants⟩ : Pk) := ⟨_, rfl⟩
  obtain ⟨q, hq⟩ : ∃ q, q = w.heap.size := ⟨_, rfl⟩
  rw [← hq] at hs1
  have HBE := Lib.hid hB
  have HLE0 := Lib.hid hlow
  clear hB hlow
  go_enter Try.func18, Try.ntmps18
  go_upto_region 1 with fail
  rw [← hq]
  clear hq
  generalize World.alloc w _ = W at hs1 ⊢
  obtain ⟨hc1, hf1, hl1⟩ := Blk.all (hs1.at 0 rfl)
  have HST := Lib.hid hs1
  clear hs1
  go_upto_region 16 with fail
  clear hc1 hf1 hl1
  have HSS := Lib.hid (fun (J : Img) (w' : World) (_ : I.le J) (hs : St J (bk q 56 #[.int .i64 2, .int .u32 sender, .int .u32 media, .int .u64 ntp, .int .u32 rtp, .int .u32 pkts, .int .u32 octs, .slice rA reps.length rz, .string name, .slice sA srcs.length sz, .slice qA seqs.length qz, .int .u16 base, .int .u32 ref, .int .u8 count, .slice aA arrs.length az, .slice wA wants.length wz] :: M) w') => (show ∀ i, w'.cell? ⟨q, i, none⟩ = (#[.int .i64 2, .int .u32 sender, .int .u32 media, .int .u64 ntp, .int .u32 rtp, .int .u32 pkts, .int .u32 octs, .slice rA reps.length rz, .string name, .slice sA srcs.length sz, .slice qA seqs.length qz, .int .u16 base, .int .u32 ref, .int .u8 count, .slice aA arrs.length az, .slice wA wants.length wz] : Array Value)[i]? from (Blk.all (hs.at 0 rfl)).1))
  obtain ⟨rb, hrb⟩ : ∃ rb, rb = reps.flatMap repL := ⟨_, rfl⟩
  have HRB := Lib.hid hrb
  have HLB := Lib.hid (show rb.length ≤ 744 by rw [hrb]; have := fm_len (f := repL) (s := 24) repL_len reps; omega)
  clear hrb
  refine wp_region_held_drew (S := fun w' => ∀ i, w'.cell? ⟨q, i, none⟩ = (#[.int .i64 2, .int .u32 sender, .int .u32 media, .int .u64 ntp, .int .u32 rtp, .int .u32 pkts, .int .u32 octs, .slice rA reps.length rz, .string name, .slice sA srcs.length sz, .slice qA seqs.length qz, .int .u16 base, .int .u32 ref, .int .u8 count, .slice aA arrs.length az, .slice wA wants.length wz] : Array Value)[i]?) (by kernel_rfl) (HSS.out _ _ (.refl _) HST.out.drew) (fun hHeld => ?_)
  refine wpAnyH_take (i := 0) (oi := _) (v := ?_) rfl (by kernel_rfl) (by kernel_rfl) (by kernel_rfl) (fun _ _ _ h => h) (Or.inl ⟨by rfl, ?_⟩) (by assumption) ?_
  rotate_left
  · (intro w hSw; (try dsimp only at hSw); go_simp; try with_reducible rfl)
  try simp only [Act.put, List.getElem_toArray, List.getElem_cons_zero, List.getElem_cons_succ, List.setIfInBounds_toArray, List.set_cons_zero, List.set_cons_succ]
  refine wpAnyH_take (i := 1) (oi := _) (v := ?_) rfl (by kernel_rfl) (by kernel_rfl) (by kernel_rfl) (fun _ _ _ h => h) (Or.inl ⟨by rfl, ?_⟩) (by assumption) ?_
  rotate_left
  · (intro w hSw; (try dsimp only at hSw); go_simp; try with_reducible rfl)
  try simp only [Act.put, List.getElem_toArray, List.getElem_cons_zero, List.getElem_cons_succ, List.setIfInBounds_toArray, List.set_cons_zero, List.set_cons_succ]
  refine wpAnyH_take (i := 3) (oi := _) (v := ?_) rfl (by kernel_rfl) (by kernel_rfl) (by kernel_rfl) (fun _ _ _ h => h) (Or.inl ⟨by rfl, ?_⟩) (by assumption) ?_
  rotate_left
  · (intro w hSw; (try dsimp only at hSw); go_simp; try with_reducible rfl)
  try simp only [Act.put, List.getElem_toArray, List.getElem_cons_zero, List.getElem_cons_succ, List.setIfInBounds_toArray, List.set_cons_zero, List.set_cons_succ]
  refine wpAnyH_take (i := 4) (oi := _) (v := ?_) rfl (by kernel_rfl) (by kernel_rfl) (by kernel_rfl) (fun _ _ _ h => h) (Or.inl ⟨by rfl, ?_⟩) (by assumption) ?_
  rotate_left
  · (intro w hSw; (try dsimp only at hSw); go_simp; try with_reducible rfl)
  try simp only [Act.put, List.getElem_toArray, List.getElem_cons_zero, List.getElem_cons_succ, List.setIfInBounds_toArray, List.set_cons_zero, List.set_cons_succ]
  refine anyH_ro (I := I) (M := bk q 56 #[.int .i64 2, .int .u32 sender, .int .u32 media, .int .u64 ntp, .int .u32 rtp, .int .u32 pkts, .int .u32 octs, .slice rA reps.length rz, .string name, .slice sA srcs.length sz, .slice qA seqs.length qz, .int .u16 base, .int .u32 ref, .int .u8 count, .slice aA arrs.length az, .slice wA wants.length wz] :: M) (l := [(2, 80, u32B sender), (5, 83, rb)]) 3 (by kernel_rfl) (by simp only [List.map_cons, List.map_nil]; decide) (by simp only [List.map_cons, List.map_nil]; decide) HSS.out HST.out.drew ?_ ?_
  · refine List.forall_mem_cons.2 ⟨?_, List.forall_mem_cons.2 ⟨?_, fun _ h => by cases h⟩⟩
    · refine CdStep.call (o := _) rfl rfl rfl rfl (fun _ _ => rfl) ?_ (fun J w hle hs => (four_frz J _ w (sender) (HOK.out.sender) hs).mono (fun _ _ h => h))
      intro xf; simp [Act.over, setAll, Act.eval]
    · refine CdStep.call (o := _) rfl rfl rfl rfl (fun _ _ => rfl) ?_ (fun J w hle hs => (frz_cast HRB.out (reportsR J _ w rA rz reps (HCR.out.mono hle) n1 HOK.out.reps hs)).mono (fun _ _ h => h))
      intro xf; simp [Act.over, setAll, Act.eval]
  · intro xf J w hle hs hx
    have r0 : RoB (u32B sender) (xf 80) J := hx (2, 80, u32B sender) (by simp)
    have r1 : RoB (rb) (xf 83) J := hx (5, 83, rb) (by simp)
    simp only [List.map_cons, List.map_nil, Act.over, setAll, List.foldl_cons, List.foldl_nil, List.setIfInBounds_toArray, List.set_cons_zero, List.set_cons_succ]
    generalize xf 80 = v80 at *
    obtain ⟨A80, c80, rfl, b80⟩ := r0
    generalize xf 83 = v83 at *
    obtain ⟨A83, c83, rfl, b83⟩ := r1
    clear hx
    refine wpAnyH_ready (rs := [6]) (by kernel_rfl) (by simp) ?_
    refine AllReadyH.cons (o := _) rfl (fun K hK => ?_) AllReadyH.nil
    go_simp
    try clear hHeld
    refine hK.out _ _ (HSS.out J _ hle (hs.grow _)) (fun hHeld => ?_)
    clear hK K
    try simp only [Act.put, List.getElem_toArray, List.getElem_cons_zero, List.getElem_cons_succ, List.setIfInBounds_toArray, List.set_cons_zero, List.set_cons_succ]
    obtain ⟨J2, hle2, hs2, hobj⟩ := (hs.alloc 24 #[.slice A80 (u32B sender).length c80, .slice A83 (rb).length c83]).freezeBlk
    have hcs := Cells.ofBlk hobj
    refine wpAnyH_ready (rs := [7]) (by kernel_rfl) (by simp) ?_
    refine AllReadyH.cons (o := _) rfl (fun K hK => ?_) AllReadyH.nil
    go_simp
    go_at_call 35
    refine (joinR J2 (bk q 56 #[.int .i64 2, .int .u32 sender, .int .u32 media, .int .u64 ntp, .int .u32 rtp, .int .u32 pkts, .int .u32 octs, .slice rA reps.length rz, .string name, .slice sA srcs.length sz, .slice qA seqs.length qz, .int .u16 base, .int .u32 ref, .int .u8 count, .slice aA arrs.length az, .slice wA wants.length wz] :: M) _ (some ⟨w.heap.size, 0, none⟩) 2 [u32B sender, rb] [.slice A80 (u32B sender).length c80, .slice A83 (rb).length c83] hcs ⟨⟨A80, c80, rfl, b80.mono hle2⟩, ⟨A83, c83, rfl, b83.mono hle2⟩, trivial⟩ (by simp) (by have := HLB.out; simp only [List.flatten_cons, List.flatten_nil, List.length_append, List.length_cons, List.length_nil, u32B_len, u16B_len]; omega) hs2).mono ?_
    rintro e w3 ⟨_, _, _, rfl, _, hs3, rfl, A3, c3, rfl, hc3, rfl⟩
    obtain ⟨fl, hfl⟩ : ∃ z : List UInt8, z = ([u32B sender, rb] : List (List UInt8)).flatten := ⟨_, rfl⟩
    rw [← hfl] at hs3 hc3 ⊢
    have HFLAT := Lib.hid hfl
    clear hfl
    try clear hHeld
    refine hK.out _ _ (HSS.out J2 _ (hle.trans hle2) hs3.drop) (fun hHeld => ?_)
    clear hK K
    try simp only [Act.put, List.getElem_toArray, List.getElem_cons_zero, List.getElem_cons_succ, List.setIfInBounds_toArray, List.set_cons_zero, List.set_cons_succ]
    refine wpAnyH_take (i := 8) (oi := _) (v := ?_) rfl (by kernel_rfl) (by kernel_rfl) (by kernel_rfl) (fun _ _ _ h => h) (Or.inl ⟨by rfl, ?_⟩) (by assumption) ?_
    rotate_left
    · (intro w hSw; (try dsimp only at hSw); go_simp; try with_reducible rfl)
    try simp only [Act.put, List.getElem_toArray, List.getElem_cons_zero, List.getElem_cons_succ, List.setIfInBounds_toArray, List.set_cons_zero, List.set_cons_succ]
    refine wpAnyH_done (by kernel_rfl) ?_ _
    have hbq : fl = B := by rw [HFLAT.out, HBE.out]; exact body2 HGD.out HRB.out
    subst hbq
    have HS := Lib.hid hs3
    have HLE := Lib.hid (hle.trans hle2)
    clear hs hs2 hs3 hHeld hle hle2 hcs hobj HFLAT
    generalize A3 = A4 at *
    go_upto_region 36 with fail
    go_loopw [3] (fun bv wr => ∃ (A : Option Addr) (n c : Nat), bv = .slice A n c ∧ n ≤ 4000 ∧ Hid (∃ (j : Nat) (J : Img), n = fl.length + j ∧ j ≤ (4 - fl.length % 4) % 4 ∧ I.le J ∧ St J (row 5 1 (.slice A n c) n (bvs (fl ++ List.replicate j 0)) :: bk q 56 #[.int .i64 2, .int .u32 sender, .int .u32 media, .int .u64 ntp, .int .u32 rtp, .int .u32 pkts, .int .u32 octs, .slice rA reps.length rz, .string name, .slice sA srcs.length sz, .slice qA seqs.length qz, .int .u16 base, .int .u32 ref, .int .u8 count, .slice aA arrs.length az, .slice wA wants.length wz] :: M) wr)) (fun bv _ => (4 - sliceLen bv % 4) % 4)
    case atStart => exact ⟨_, _, _, rfl, by omega, Lib.hid ⟨0, J2, rfl, Nat.zero_le _, HLE.out, by simpa using HS.out⟩⟩
    case round =>
      obtain ⟨A, n, c, rfl, hn, hh⟩ := hrel
      obtain ⟨j, J, hnj, hj, hle, hs⟩ := hh.out
      clear hh HS HLE
      have hln : (fl ++ List.replicate j 0).length = n := by rw [hnj]; simp
      have HLN := Lib.hid hln
      have HRP := Lib.hid (rep_snoc j)
      have HNJ := Lib.hid hnj
      by_cases hlt : j < (4 - fl.length % 4) % 4
      · have hm : ((n : Int) % 4 != 0) = true := by rw [bne_iff_ne]; omega
        obtain ⟨J3, hle3, hs3, hobj⟩ := (hs.alloc 5 #[.int .u8 0]).freezeBlk
        have HB1 := Lib.hid (show RoB [0] (.slice (some ⟨wr.heap.size, 0, none⟩) 1 1) J3 from ⟨_, 1, rfl, Byts.ofBlk hobj rfl⟩)
        obtain ⟨bl, hbe⟩ : ∃ bl, bl = fl ++ List.replicate j 0 := ⟨_, rfl⟩
        rw [← hbe] at hs3 hln
        rw [← hln] at hs3
        have HBL := Lib.hid hbe
        have HS3 := Lib.hid hs3
        have HLE := Lib.hid (hle.trans hle3)
        have HLT := Lib.hid hlt
        have HLL := Lib.hid hln
        clear hbe hle hle3 hs hs3 hobj hnj hj hln hlt
        go_wp2_with (at_builtin; refine wpList_appB rfl _ _ rfl J3 _ _ _ _ _ (by rw [HLL.out]; rfl) rfl HS3.out HB1.out (by have := HLL.out; simp only [List.length_cons, List.length_nil]; omega) ?_)
        intro v3 w3 hs4
        obtain ⟨A5, c5, rfl⟩ := own_form (show World.ownsRow _ 0 5 1 v3 _ _ from St.at hs4 0 rfl)
        have hl5 : (bl ++ [0]).length = n + 1 := by rw [List.length_append, HLL.out]; rfl
        have hs5 := show St J3 _ w3 from hs4
        rw [hl5] at hs5 ⊢
        have HS5 := Lib.hid hs5
        clear hs4 hs5 HS3 HB1 hl5
        go_wp2
        go_roundw
        case rel =>
          refine ⟨A5, n + 1, c5, rfl, by have := HLT.out; have := HNJ.out; omega, Lib.hid ⟨j + 1, J3, by have := HNJ.out; omega, by have := HLT.out; omega, HLE.out, ?_⟩⟩
          have := HS5.out
          rw [HBL.out, List.append_assoc, ← HRP.out] at this
          exact this
        case measure =>
          have h1 := HNJ.out
          have h2 := HLT.out
          show (4 - (n + 1) % 4) % 4 < (4 - n % 4) % 4
          omega
      · have hm : ((n : Int) % 4 != 0) = false := by rw [bne_eq_false_iff_eq]; omega
        have hjj : j = (4 - fl.length % 4) % 4 := by omega
        rw [hjj, even_rep] at hs hln
        obtain ⟨E, hE⟩ : ∃ E, E = evenL fl := ⟨_, rfl⟩
        rw [← hE] at hs hln
        have HE := Lib.hid hE
        obtain ⟨J3, hle3, hs3, hb3⟩ := hs.freezeRow
        have HS3 := Lib.hid hs3
        have HB3 := Lib.hid (show Byts J3 A E from hb3)
        have HLE := Lib.hid (hle.trans hle3)
        have HLL := Lib.hid hln
        clear hs hs3 hb3 hle hle3 hE hln hnj hj hjj hlt
        have hq1 : (reps.length : Int) ≤ 31 := by omega
        have HV := Lib.hid (show [byteOf (128 + (reps.length : Int)), byteOf 201] ++ u16B ((E.length / 4 : Nat) : Int) ++ E = packB (⟨2, sender, media, ntp, rtp, pkts, octs, reps, name, srcs, seqs, base, ref, count, arrs, wants⟩ : Pk) by
          have e1 : 128 + low = 128 + (reps.length : Int) := by rw [HLE0.out]; rw [low2 HGD.out]
          rw [← e1, HLE0.out, HE.out, HBE.out]
          rfl)
        obtain ⟨J4, hle4, hs4, hobj⟩ := (HS3.out.alloc 5 #[.int .u8 (128 + (reps.length : Int)), .int .u8 201]).freezeBlk
        have HB4 := Lib.hid (show Byts J4 (some ⟨wr.heap.size, 0, none⟩) [byteOf (128 + (reps.length : Int)), byteOf 201] from Byts.ofBlk hobj (lit_two (by omega) (by omega)))
        have HT := Lib.hid (twoR J4 _ _ ((n : Int) / 4) hs4)
        have HLE4 := Lib.hid hle4
        clear hle4 hs4 hobj HS3
        go_wp2_with fail
        go_at_call 39
        refine HT.out.mono ?_
        clear HT
        rintro e w2 ⟨_, _, _, rfl, _, hs1, rfl, A6, c6, rfl, hc6, rfl⟩
        obtain ⟨J5, hle5, hs5, hb5⟩ := hs1.freezeRow
        have hb5 : Byts J5 A6 (u16B ((n : Int) / 4 % 65536)) := hb5
        obtain ⟨J6, hle6, hs6, hobj⟩ := (hs5.alloc 24 #[.slice (some ⟨wr.heap.size, 0, none⟩) 2 2, .slice A6 (u16B ((n : Int) / 4 % 65536)).length c6, .slice A n c]).freezeBlk
        have hcs := Cells.ofBlk hobj
        have HJ := Lib.hid (joinR J6 (bk q 56 #[.int .i64 2, .int .u32 sender, .int .u32 media, .int .u64 ntp, .int .u32 rtp, .int .u32 pkts, .int .u32 octs, .slice rA reps.length rz, .string name, .slice sA srcs.length sz, .slice qA seqs.length qz, .int .u16 base, .int .u32 ref, .int .u8 count, .slice aA arrs.length az, .slice wA wants.length wz] :: M) _ (some ⟨w2.heap.size, 0, none⟩) 3 [[byteOf (128 + (reps.length : Int)), byteOf 201], u16B ((n : Int) / 4 % 65536), E] [.slice (some ⟨wr.heap.size, 0, none⟩) 2 2, .slice A6 (u16B ((n : Int) / 4 % 65536)).length c6, .slice A n c] hcs ⟨⟨_, 2, rfl, (HB4.out.mono hle5).mono hle6⟩, ⟨A6, c6, rfl, hb5.mono hle6⟩, ⟨A, c, by rw [HLL.out], ((HB3.out.mono HLE4.out).mono hle5).mono hle6⟩, trivial⟩ (by simp) (by have := HLL.out; simp only [List.flatten_cons, List.flatten_nil, List.length_append, List.length_cons, List.length_nil, u16B_len]; omega) hs6)
        have HL := Lib.hid (((HLE.out.trans HLE4.out).trans hle5).trans hle6)
        clear hs1 hs5 hs6 hb5 hc6 hobj hcs hle5 hle6 HB3 HB4
        go_wp2_with fail
        go_at_call 35
        refine HJ.out.mono ?_
        clear HJ
        rintro e w4 ⟨_, _, _, rfl, _, hs7, rfl, A7, c7, rfl, hc7, rfl⟩
        have HPE := Lib.hid (show ([[byteOf (128 + (reps.length : Int)), byteOf 201], u16B ((n : Int) / 4 % 65536), E] : List (List UInt8)).flatten = packB (⟨2, sender, media, ntp, rtp, pkts, octs, reps, name, srcs, seqs, base, ref, count, arrs, wants⟩ : Pk) by
          rw [← HV.out, HLL.out]
          have e2 : (n : Int) / 4 % 65536 = ((n / 4 : Nat) : Int) := by omega
          rw [e2]
          simp)
        rw [HPE.out] at hs7 hc7 ⊢
        have HF := Lib.hid (show Bui I M (⟨2, sender, media, ntp, rtp, pkts, octs, reps, name, srcs, seqs, base, ref, count, arrs, wants⟩ : Pk) (.returned _) w4 from Ret.mk HL.out (St.swap1 hs7).drop ⟨A7, c7, rfl, rfl⟩)
        clear hs7 hc7 HPE HV
        generalize packB (⟨2, sender, media, ntp, rtp, pkts, octs, reps, name, srcs, seqs, base, ref, count, arrs, wants⟩ : Pk) = pbs at *
        go_wp2
        go_returns
        exact HF.out
end Go.Proofs.Ytddopbbmgpnjjaa
namespace Go.Proofs.Ytddopbbmgpnjjaa
open Go.RowKit
set_option linter.unusedSimpArgs false

set_option maxRecDepth 100000 in
set_option maxHeartbeats 40000000 in
theorem build3 (I : Img) (M : List Res) (w : World) (sender : Int) (media : Int) (ntp : Int) (rtp : Int) (pkts : Int) (octs : Int) (base : Int) (ref : Int) (count : Int) (name : ByteArray) (reps : List Rp) (srcs seqs arrs : List Int) (wants : List Wn) (rA : Option Addr) (rz : Nat) (sA : Option Addr) (sz : Nat) (qA : Option Addr) (qz : Nat) (aA : Option Addr) (az : Nat) (wA : Option Addr) (wz : Nat) (cr : Cells I rA (flat repC reps)) (cs : Cells I sA (flat u32C srcs)) (cq : Cells I qA (flat u16C seqs)) (ca : Cells I aA (flat intC arrs)) (cw : Cells I wA (flat wnC wants)) (hok : PkOk (⟨3, sender, media, ntp, rtp, pkts, octs, reps, name, srcs, seqs, base, ref, count, arrs, wants⟩ : Pk)) (hg : Good (⟨3, sender, media, ntp, rtp, pkts, octs, reps, name, srcs, seqs, base, ref, count, arrs, wants⟩ : Pk)) (hst : St I M w) :
    Calls Try.prog 18 #[.agg #[.int .i64 3, .int .u32 sender, .int .u32 media, .int .u64 ntp, .int .u32 rtp, .int .u32 pkts, .int .u32 octs, .slice rA reps.length rz, .string name, .slice sA srcs.length sz, .slice qA seqs.length qz, .int .u16 base, .int .u32 ref, .int .u8 count, .slice aA arrs.length az, .slice wA wants.length wz]] w (Bui I M (⟨3, sender, media, ntp, rtp, pkts, octs, reps, name, srcs, seqs, base, ref, count, arrs, wants⟩ : Pk)) := by
  have hs1 := hst.alloc 56 #[.int .i64 3, .int .u32 sender, .int .u32 media, .int .u64 ntp, .int .u32 rtp, .int .u32 pkts, .int .u32 octs, .slice rA reps.length rz, .string name, .slice sA srcs.length sz, .slice qA seqs.length qz, .int .u16 base, .int .u32 ref, .int .u8 count, .slice aA arrs.length az, .slice wA wants.length wz]
  have HOK := Lib.hid hok
  have HGD := Lib.hid hg
  have hbl := body_len hg
  obtain ⟨n1, n2, n3, n4, n5, n6⟩ := good_lens hg
  have HLOW := Lib.hid (lowP_ok hg)
  simp only [] at n1 n2 n3 n4 n5 n6
  have HCR := Lib.hid cr
  have HCS := Lib.hid cs
  have HCW := Lib.hid cw
  have HCQ := Lib.hid cq
  have HCA := Lib.hid ca
  clear cr cs cq ca cw hok hg hst
  obtain ⟨B, hB⟩ : ∃ B, B = bodyL (⟨3, sender, media, ntp, rtp, pkts, octs, reps, name, srcs, seqs, base, ref, count, arrs, wants⟩ : Pk) := ⟨_, rfl⟩
  rw [← hB] at hbl
  obtain ⟨low, hlow⟩ : ∃ low, low = lowP (⟨3, sender, media, ntp, rtp, pkts, octs, reps, name, srcs, seqs, base, ref, count, arrs, wants⟩ : Pk) := ⟨_, rfl⟩
  obtain ⟨q, hq⟩ : ∃ q, q = w.heap.size := ⟨_, rfl⟩
  rw [← hq] at hs1
  have HBE := Lib.hid hB
  have HLE0 := Lib.hid hlow
  clear hB hlow
  go_enter Try.func18, Try.ntmps18
  go_upto_region 1 with fail
  rw [← hq]
  clear hq
  generalize World.alloc w _ = W at hs1 ⊢
  obtain ⟨hc1, hf1, hl1⟩ := Blk.all (hs1.at 0 rfl)
  have HST := Lib.hid hs1
  clear hs1
  go_upto_region 19 with fail
  clear hc1 hf1 hl1
  have HSS := Lib.hid (fun (J : Img) (w' : World) (_ : I.le J) (hs : St J (bk q 56 #[.int .i64 3, .int .u32 sender, .int .u32 media, .int .u64 ntp, .int .u32 rtp, .int .u32 pkts, .int .u32 octs, .slice rA reps.length rz, .string name, .slice sA srcs.length sz, .slice qA seqs.length qz, .int .u16 base, .int .u32 ref, .int .u8 count, .slice aA arrs.length az, .slice wA wants.length wz] :: M) w') => (show ∀ i, w'.cell? ⟨q, i, none⟩ = (#[.int .i64 3, .int .u32 sender, .int .u32 media, .int .u64 ntp, .int .u32 rtp, .int .u32 pkts, .int .u32 octs, .slice rA reps.length rz, .string name, .slice sA srcs.length sz, .slice qA seqs.length qz, .int .u16 base, .int .u32 ref, .int .u8 count, .slice aA arrs.length az, .slice wA wants.length wz] : Array Value)[i]? from (Blk.all (hs.at 0 rfl)).1))
  have hn6 : (name.size : Int) ≤ 64 := by omega
  have hw1 : IntKind.u8.wrap name.size = name.size := wrap_u8 (by omega) (by omega)
  have HLB := Lib.hid (show (ls name).length ≤ 64 by rw [ls_len]; exact n6)
  refine wp_region_held_drew (S := fun w' => ∀ i, w'.cell? ⟨q, i, none⟩ = (#[.int .i64 3, .int .u32 sender, .int .u32 media, .int .u64 ntp, .int .u32 rtp, .int .u32 pkts, .int .u32 octs, .slice rA reps.length rz, .string name, .slice sA srcs.length sz, .slice qA seqs.length qz, .int .u16 base, .int .u32 ref, .int .u8 count, .slice aA arrs.length az, .slice wA wants.length wz] : Array Value)[i]?) (by kernel_rfl) (HSS.out _ _ (.refl _) HST.out.drew) (fun hHeld => ?_)
  refine wpAnyH_take (i := 0) (oi := _) (v := ?_) rfl (by kernel_rfl) (by kernel_rfl) (by kernel_rfl) (fun _ _ _ h => h) (Or.inl ⟨by rfl, ?_⟩) (by assumption) ?_
  rotate_left
  · (intro w hSw; (try dsimp only at hSw); go_simp; try with_reducible rfl)
  try simp only [Act.put, List.getElem_toArray, List.getElem_cons_zero, List.getElem_cons_succ, List.setIfInBounds_toArray, List.set_cons_zero, List.set_cons_succ]
  refine wpAnyH_take (i := 1) (oi := _) (v := ?_) rfl (by kernel_rfl) (by kernel_rfl) (by kernel_rfl) (fun _ _ _ h => h) (Or.inl ⟨by rfl, ?_⟩) (by assumption) ?_
  rotate_left
  · (intro w hSw; (try dsimp only at hSw); go_simp; try with_reducible rfl)
  try simp only [Act.put, List.getElem_toArray, List.getElem_cons_zero, List.getElem_cons_succ, List.setIfInBounds_toArray, List.set_cons_zero, List.set_cons_succ]
  refine wpAnyH_take (i := 3) (oi := _) (v := ?_) rfl (by kernel_rfl) (by kernel_rfl) (by kernel_rfl) (fun _ _ _ h => h) (Or.inl ⟨by rfl, ?_⟩) (by assumption) ?_
  rotate_left
  · (intro w hSw; (try dsimp only at hSw); go_simp; try with_reducible rfl)
  try simp only [Act.put, List.getElem_toArray, List.getElem_cons_zero, List.getElem_cons_succ, List.setIfInBounds_toArray, List.set_cons_zero, List.set_cons_succ]
  refine wpAnyH_take (i := 4) (oi := _) (v := ?_) rfl (by kernel_rfl) (by kernel_rfl) (by kernel_rfl) (fun _ _ _ h => h) (Or.inl ⟨by rfl, ?_⟩) (by assumption) ?_
  rotate_left
  · (intro w hSw; (try dsimp only at hSw); go_simp; try with_reducible rfl)
  try simp only [Act.put, List.getElem_toArray, List.getElem_cons_zero, List.getElem_cons_succ, List.setIfInBounds_toArray, List.set_cons_zero, List.set_cons_succ]
  refine wpAnyH_take (i := 5) (oi := _) (v := ?_) rfl (by kernel_rfl) (by kernel_rfl) (by kernel_rfl) (fun _ _ _ h => h) (Or.inl ⟨by rfl, ?_⟩) (by assumption) ?_
  rotate_left
  · (intro w hSw; (try dsimp only at hSw); go_simp; try with_reducible rfl)
  try simp only [Act.put, List.getElem_toArray, List.getElem_cons_zero, List.getElem_cons_succ, List.setIfInBounds_toArray, List.set_cons_zero, List.set_cons_succ]
  refine wpAnyH_take (i := 6) (oi := _) (v := ?_) rfl (by kernel_rfl) (by kernel_rfl) (by kernel_rfl) (fun _ _ _ h => h) (Or.inl ⟨by rfl, ?_⟩) (by assumption) ?_
  rotate_left
  · (intro w hSw; (try dsimp only at hSw); go_simp; try with_reducible rfl)
  try simp only [Act.put, List.getElem_toArray, List.getElem_cons_zero, List.getElem_cons_succ, List.setIfInBounds_toArray, List.set_cons_zero, List.set_cons_succ]
  refine wpAnyH_take (i := 8) (oi := _) (v := ?_) rfl (by kernel_rfl) (by kernel_rfl) (by kernel_rfl) (fun _ _ _ h => h) (Or.inl ⟨by rfl, ?_⟩) (by assumption) ?_
  rotate_left
  · (intro w hSw; (try dsimp only at hSw); go_simp; try with_reducible rfl)
  try simp only [Act.put, List.getElem_toArray, List.getElem_cons_zero, List.getElem_cons_succ, List.setIfInBounds_toArray, List.set_cons_zero, List.set_cons_succ]
  refine wpAnyH_take (i := 9) (oi := _) (v := ?_) rfl (by kernel_rfl) (by kernel_rfl) (by kernel_rfl) (fun _ _ _ h => h) (Or.inl ⟨by rfl, ?_⟩) (by assumption) ?_
  rotate_left
  · (intro w hSw; (try dsimp only at hSw); go_simp; try with_reducible rfl)
  try simp only [Act.put, List.getElem_toArray, List.getElem_cons_zero, List.getElem_cons_succ, List.setIfInBounds_toArray, List.set_cons_zero, List.set_cons_succ]
  refine anyH_ro (I := I) (M := bk q 56 #[.int .i64 3, .int .u32 sender, .int .u32 media, .int .u64 ntp, .int .u32 rtp, .int .u32 pkts, .int .u32 octs, .slice rA reps.length rz, .string name, .slice sA srcs.length sz, .slice qA seqs.length qz, .int .u16 base, .int .u32 ref, .int .u8 count, .slice aA arrs.length az, .slice wA wants.length wz] :: M) (l := [(2, 90, u32B sender), (7, 95, [byteOf 1, byteOf name.size]), (10, 98, ls name), (11, 99, [byteOf 0])]) 3 (by kernel_rfl) (by simp only [List.map_cons, List.map_nil]; decide) (by simp only [List.map_cons, List.map_nil]; decide) HSS.out HST.out.drew ?_ ?_
  · refine List.forall_mem_cons.2 ⟨?_, List.forall_mem_cons.2 ⟨?_, List.forall_mem_cons.2 ⟨?_, List.forall_mem_cons.2 ⟨?_, fun _ h => by cases h⟩⟩⟩⟩
    · refine CdStep.call (o := _) rfl rfl rfl rfl (fun _ _ => rfl) ?_ (fun J w hle hs => (four_frz J _ w (sender) (HOK.out.sender) hs).mono (fun _ _ h => h))
      intro xf; simp [Act.over, setAll, Act.eval, hw1]
    · refine CdStep.lit (o := _) rfl rfl rfl rfl (fun xf J w hle hs => ?_)
      obtain ⟨J9, hle9, hs9, hobj⟩ := (hs.alloc 5 #[.int .u8 1, .int .u8 name.size]).freezeBlk
      refine ⟨.slice (some ⟨w.heap.size, 0, none⟩) 2 2, J9, w.alloc (.cells #[.int .u8 1, .int .u8 name.size] 5), ?_, hle9, hs9, ⟨_, 2, rfl, Byts.ofBlk hobj (lit_two (by omega) (by omega))⟩⟩
      simp only [Act.over, setAll, List.map_cons, List.map_nil, List.foldl_cons, List.foldl_nil, List.setIfInBounds_toArray, List.set_cons_zero, List.set_cons_succ]
      kernel_rfl
    · refine CdStep.conv (o := _) rfl rfl rfl rfl (fun _ => rfl) (fun J w hle hs => ?_)
      obtain ⟨J9, hle9, hs9, hb9⟩ := hs.bytesOf name (grownCap w name.size 0 5) ((bytesRow name (grownCap w name.size 0 5)).size, (bytesRow name (grownCap w name.size 0 5)).size + 1)
      have hconv := run_bytes_of_string (P := Try.prog) w 9 24 5 name Try.underlying9 Try.underlying24 Try.underlying5
      exact ⟨_, J9, _, hconv, hle9, hs9, ⟨_, _, by rw [ls_len], hb9⟩⟩
    · refine CdStep.lit (o := _) rfl rfl rfl rfl (fun xf J w hle hs => ?_)
      obtain ⟨J9, hle9, hs9, hobj⟩ := (hs.alloc 5 #[.int .u8 0]).freezeBlk
      refine ⟨.slice (some ⟨w.heap.size, 0, none⟩) 1 1, J9, w.alloc (.cells #[.int .u8 0] 5), ?_, hle9, hs9, ⟨_, 1, rfl, Byts.ofBlk hobj rfl⟩⟩
      simp only [Act.over, setAll, List.map_cons, List.map_nil, List.foldl_cons, List.foldl_nil, List.setIfInBounds_toArray, List.set_cons_zero, List.set_cons_succ]
      kernel_rfl
  · intro xf J w hle hs hx
    have r0 : RoB (u32B sender) (xf 90) J := hx (2, 90, u32B sender) (by simp)
    have r1 : RoB ([byteOf 1, byteOf name.size]) (xf 95) J := hx (7, 95, [byteOf 1, byteOf name.size]) (by simp)
    have r2 : RoB (ls name) (xf 98) J := hx (10, 98, ls name) (by simp)
    have r3 : RoB ([byteOf 0]) (xf 99) J := hx (11, 99, [byteOf 0]) (by simp)
    simp only [List.map_cons, List.map_nil, Act.over, setAll, List.foldl_cons, List.foldl_nil, List.setIfInBounds_toArray, List.set_cons_zero, List.set_cons_succ]
    generalize xf 90 = v90 at *
    obtain ⟨A90, c90, rfl, b90⟩ := r0
    generalize xf 95 = v95 at *
    obtain ⟨A95, c95, rfl, b95⟩ := r1
    generalize xf 98 = v98 at *
    obtain ⟨A98, c98, rfl, b98⟩ := r2
    generalize xf 99 = v99 at *
    obtain ⟨A99, c99, rfl, b99⟩ := r3
    clear hx
    refine wpAnyH_ready (rs := [12]) (by kernel_rfl) (by simp) ?_
    refine AllReadyH.cons (o := _) rfl (fun K hK => ?_) AllReadyH.nil
    go_simp
    try clear hHeld
    refine hK.out _ _ (HSS.out J _ hle (hs.grow _)) (fun hHeld => ?_)
    clear hK K
    try simp only [Act.put, List.getElem_toArray, List.getElem_cons_zero, List.getElem_cons_succ, List.setIfInBounds_toArray, List.set_cons_zero, List.set_cons_succ]
    obtain ⟨J2, hle2, hs2, hobj⟩ := (hs.alloc 24 #[.slice A90 (u32B sender).length c90, .slice A95 ([byteOf 1, byteOf name.size]).length c95, .slice A98 (ls name).length c98, .slice A99 ([byteOf 0]).length c99]).freezeBlk
    have hcs := Cells.ofBlk hobj
    refine wpAnyH_ready (rs := [13]) (by kernel_rfl) (by simp) ?_
    refine AllReadyH.cons (o := _) rfl (fun K hK => ?_) AllReadyH.nil
    go_simp
    go_at_call 35
    refine (joinR J2 (bk q 56 #[.int .i64 3, .int .u32 sender, .int .u32 media, .int .u64 ntp, .int .u32 rtp, .int .u32 pkts, .int .u32 octs, .slice rA reps.length rz, .string name, .slice sA srcs.length sz, .slice qA seqs.length qz, .int .u16 base, .int .u32 ref, .int .u8 count, .slice aA arrs.length az, .slice wA wants.length wz] :: M) _ (some ⟨w.heap.size, 0, none⟩) 4 [u32B sender, [byteOf 1, byteOf name.size], ls name, [byteOf 0]] [.slice A90 (u32B sender).length c90, .slice A95 ([byteOf 1, byteOf name.size]).length c95, .slice A98 (ls name).length c98, .slice A99 ([byteOf 0]).length c99] hcs ⟨⟨A90, c90, rfl, b90.mono hle2⟩, ⟨A95, c95, rfl, b95.mono hle2⟩, ⟨A98, c98, rfl, b98.mono hle2⟩, ⟨A99, c99, rfl, b99.mono hle2⟩, trivial⟩ (by simp) (by have := HLB.out; simp only [List.flatten_cons, List.flatten_nil, List.length_append, List.length_cons, List.length_nil, u32B_len, u16B_len]; omega) hs2).mono ?_
    rintro e w3 ⟨_, _, _, rfl, _, hs3, rfl, A3, c3, rfl, hc3, rfl⟩
    obtain ⟨fl, hfl⟩ : ∃ z : List UInt8, z = ([u32B sender, [byteOf 1, byteOf name.size], ls name, [byteOf 0]] : List (List UInt8)).flatten := ⟨_, rfl⟩
    rw [← hfl] at hs3 hc3 ⊢
    have HFLAT := Lib.hid hfl
    clear hfl
    try clear hHeld
    refine hK.out _ _ (HSS.out J2 _ (hle.trans hle2) hs3.drop) (fun hHeld => ?_)
    clear hK K
    try simp only [Act.put, List.getElem_toArray, List.getElem_cons_zero, List.getElem_cons_succ, List.setIfInBounds_toArray, List.set_cons_zero, List.set_cons_succ]
    refine wpAnyH_take (i := 14) (oi := _) (v := ?_) rfl (by kernel_rfl) (by kernel_rfl) (by kernel_rfl) (fun _ _ _ h => h) (Or.inl ⟨by rfl, ?_⟩) (by assumption) ?_
    rotate_left
    · (intro w hSw; (try dsimp only at hSw); go_simp; try with_reducible rfl)
    try simp only [Act.put, List.getElem_toArray, List.getElem_cons_zero, List.getElem_cons_succ, List.setIfInBounds_toArray, List.set_cons_zero, List.set_cons_succ]
    refine wpAnyH_done (by kernel_rfl) ?_ _
    have hbq : fl = B := by rw [HFLAT.out, HBE.out]; exact body3 HGD.out
    subst hbq
    have HS := Lib.hid hs3
    have HLE := Lib.hid (hle.trans hle2)
    clear hs hs2 hs3 hHeld hle hle2 hcs hobj HFLAT
    generalize A3 = A4 at *
    go_upto_region 36 with fail
    go_loopw [3] (fun bv wr => ∃ (A : Option Addr) (n c : Nat), bv = .slice A n c ∧ n ≤ 4000 ∧ Hid (∃ (j : Nat) (J : Img), n = fl.length + j ∧ j ≤ (4 - fl.length % 4) % 4 ∧ I.le J ∧ St J (row 5 1 (.slice A n c) n (bvs (fl ++ List.replicate j 0)) :: bk q 56 #[.int .i64 3, .int .u32 sender, .int .u32 media, .int .u64 ntp, .int .u32 rtp, .int .u32 pkts, .int .u32 octs, .slice rA reps.length rz, .string name, .slice sA srcs.length sz, .slice qA seqs.length qz, .int .u16 base, .int .u32 ref, .int .u8 count, .slice aA arrs.length az, .slice wA wants.length wz] :: M) wr)) (fun bv _ => (4 - sliceLen bv % 4) % 4)
    case atStart => exact ⟨_, _, _, rfl, by omega, Lib.hid ⟨0, J2, rfl, Nat.zero_le _, HLE.out, by simpa using HS.out⟩⟩
    case round =>
      obtain ⟨A, n, c, rfl, hn, hh⟩ := hrel
      obtain ⟨j, J, hnj, hj, hle, hs⟩ := hh.out
      clear hh HS HLE
      have hln : (fl ++ List.replicate j 0).length = n := by rw [hnj]; simp
      have HLN := Lib.hid hln
      have HRP := Lib.hid (rep_snoc j)
      have HNJ := Lib.hid hnj
      by_cases hlt : j < (4 - fl.length % 4) % 4
      · have hm : ((n : Int) % 4 != 0) = true := by rw [bne_iff_ne]; omega
        obtain ⟨J3, hle3, hs3, hobj⟩ := (hs.alloc 5 #[.int .u8 0]).freezeBlk
        have HB1 := Lib.hid (show RoB [0] (.slice (some ⟨wr.heap.size, 0, none⟩) 1 1) J3 from ⟨_, 1, rfl, Byts.ofBlk hobj rfl⟩)
        obtain ⟨bl, hbe⟩ : ∃ bl, bl = fl ++ List.replicate j 0 := ⟨_, rfl⟩
        rw [← hbe] at hs3 hln
        rw [← hln] at hs3
        have HBL := Lib.hid hbe
        have HS3 := Lib.hid hs3
        have HLE := Lib.hid (hle.trans hle3)
        have HLT := Lib.hid hlt
        have HLL := Lib.hid hln
        clear hbe hle hle3 hs hs3 hobj hnj hj hln hlt
        go_wp2_with (at_builtin; refine wpList_appB rfl _ _ rfl J3 _ _ _ _ _ (by rw [HLL.out]; rfl) rfl HS3.out HB1.out (by have := HLL.out; simp only [List.length_cons, List.length_nil]; omega) ?_)
        intro v3 w3 hs4
        obtain ⟨A5, c5, rfl⟩ := own_form (show World.ownsRow _ 0 5 1 v3 _ _ from St.at hs4 0 rfl)
        have hl5 : (bl ++ [0]).length = n + 1 := by rw [List.length_append, HLL.out]; rfl
        have hs5 := show St J3 _ w3 from hs4
        rw [hl5] at hs5 ⊢
        have HS5 := Lib.hid hs5
        clear hs4 hs5 HS3 HB1 hl5
        go_wp2
        go_roundw
        case rel =>
          refine ⟨A5, n + 1, c5, rfl, by have := HLT.out; have := HNJ.out; omega, Lib.hid ⟨j + 1, J3, by have := HNJ.out; omega, by have := HLT.out; omega, HLE.out, ?_⟩⟩
          have := HS5.out
          rw [HBL.out, List.append_assoc, ← HRP.out] at this
          exact this
        case measure =>
          have h1 := HNJ.out
          have h2 := HLT.out
          show (4 - (n + 1) % 4) % 4 < (4 - n % 4) % 4
          omega
      · have hm : ((n : Int) % 4 != 0) = false := by rw [bne_eq_false_iff_eq]; omega
        have hjj : j = (4 - fl.length % 4) % 4 := by omega
        rw [hjj, even_rep] at hs hln
        obtain ⟨E, hE⟩ : ∃ E, E = evenL fl := ⟨_, rfl⟩
        rw [← hE] at hs hln
        have HE := Lib.hid hE
        obtain ⟨J3, hle3, hs3, hb3⟩ := hs.freezeRow
        have HS3 := Lib.hid hs3
        have HB3 := Lib.hid (show Byts J3 A E from hb3)
        have HLE := Lib.hid (hle.trans hle3)
        have HLL := Lib.hid hln
        clear hs hs3 hb3 hle hle3 hE hln hnj hj hjj hlt
        have HV := Lib.hid (show [byteOf (129), byteOf 202] ++ u16B ((E.length / 4 : Nat) : Int) ++ E = packB (⟨3, sender, media, ntp, rtp, pkts, octs, reps, name, srcs, seqs, base, ref, count, arrs, wants⟩ : Pk) by
          have e1 : 128 + low = 129 := by rw [HLE0.out]; rfl
          rw [← e1, HLE0.out, HE.out, HBE.out]
          rfl)
        obtain ⟨J4, hle4, hs4, hobj⟩ := (HS3.out.alloc 5 #[.int .u8 (129), .int .u8 202]).freezeBlk
        have HB4 := Lib.hid (show Byts J4 (some ⟨wr.heap.size, 0, none⟩) [byteOf (129), byteOf 202] from Byts.ofBlk hobj (lit_two (by omega) (by omega)))
        have HT := Lib.hid (twoR J4 _ _ ((n : Int) / 4) hs4)
        have HLE4 := Lib.hid hle4
        clear hle4 hs4 hobj HS3
        go_wp2_with fail
        go_at_call 39
        refine HT.out.mono ?_
        clear HT
        rintro e w2 ⟨_, _, _, rfl, _, hs1, rfl, A6, c6, rfl, hc6, rfl⟩
        obtain ⟨J5, hle5, hs5, hb5⟩ := hs1.freezeRow
        have hb5 : Byts J5 A6 (u16B ((n : Int) / 4 % 65536)) := hb5
        obtain ⟨J6, hle6, hs6, hobj⟩ := (hs5.alloc 24 #[.slice (some ⟨wr.heap.size, 0, none⟩) 2 2, .slice A6 (u16B ((n : Int) / 4 % 65536)).length c6, .slice A n c]).freezeBlk
        have hcs := Cells.ofBlk hobj
        have HJ := Lib.hid (joinR J6 (bk q 56 #[.int .i64 3, .int .u32 sender, .int .u32 media, .int .u64 ntp, .int .u32 rtp, .int .u32 pkts, .int .u32 octs, .slice rA reps.length rz, .string name, .slice sA srcs.length sz, .slice qA seqs.length qz, .int .u16 base, .int .u32 ref, .int .u8 count, .slice aA arrs.length az, .slice wA wants.length wz] :: M) _ (some ⟨w2.heap.size, 0, none⟩) 3 [[byteOf (129), byteOf 202], u16B ((n : Int) / 4 % 65536), E] [.slice (some ⟨wr.heap.size, 0, none⟩) 2 2, .slice A6 (u16B ((n : Int) / 4 % 65536)).length c6, .slice A n c] hcs ⟨⟨_, 2, rfl, (HB4.out.mono hle5).mono hle6⟩, ⟨A6, c6, rfl, hb5.mono hle6⟩, ⟨A, c, by rw [HLL.out], ((HB3.out.mono HLE4.out).mono hle5).mono hle6⟩, trivial⟩ (by simp) (by have := HLL.out; simp only [List.flatten_cons, List.flatten_nil, List.length_append, List.length_cons, List.length_nil, u16B_len]; omega) hs6)
        have HL := Lib.hid (((HLE.out.trans HLE4.out).trans hle5).trans hle6)
        clear hs1 hs5 hs6 hb5 hc6 hobj hcs hle5 hle6 HB3 HB4
        go_wp2_with fail
        go_at_call 35
        refine HJ.out.mono ?_
        clear HJ
        rintro e w4 ⟨_, _, _, rfl, _, hs7, rfl, A7, c7, rfl, hc7, rfl⟩
        have HPE := Lib.hid (show ([[byteOf (129), byteOf 202], u16B ((n : Int) / 4 % 65536), E] : List (List UInt8)).flatten = packB (⟨3, sender, media, ntp, rtp, pkts, octs, reps, name, srcs, seqs, base, ref, count, arrs, wants⟩ : Pk) by
          rw [← HV.out, HLL.out]
          have e2 : (n : Int) / 4 % 65536 = ((n / 4 : Nat) : Int) := by omega
          rw [e2]
          simp)
        rw [HPE.out] at hs7 hc7 ⊢
        have HF := Lib.hid (show Bui I M (⟨3, sender, media, ntp, rtp, pkts, octs, reps, name, srcs, seqs, base, ref, count, arrs, wants⟩ : Pk) (.returned _) w4 from Ret.mk HL.out (St.swap1 hs7).drop ⟨A7, c7, rfl, rfl⟩)
        clear hs7 hc7 HPE HV
        generalize packB (⟨3, sender, media, ntp, rtp, pkts, octs, reps, name, srcs, seqs, base, ref, count, arrs, wants⟩ : Pk) = pbs at *
        go_wp2
        go_returns
        exact HF.out
end Go.Proofs.Ytddopbbmgpnjjaa
namespace Go.Proofs.Ytddopbbmgpnjjaa
open Go.RowKit
set_option linter.unusedSimpArgs false

set_option maxRecDepth 100000 in
set_option maxHeartbeats 40000000 in
theorem build4 (I : Img) (M : List Res) (w : World) (sender : Int) (media : Int) (ntp : Int) (rtp : Int) (pkts : Int) (octs : Int) (base : Int) (ref : Int) (count : Int) (name : ByteArray) (reps : List Rp) (srcs seqs arrs : List Int) (wants : List Wn) (rA : Option Addr) (rz : Nat) (sA : Option Addr) (sz : Nat) (qA : Option Addr) (qz : Nat) (aA : Option Addr) (az : Nat) (wA : Option Addr) (wz : Nat) (cr : Cells I rA (flat repC reps)) (cs : Cells I sA (flat u32C srcs)) (cq : Cells I qA (flat u16C seqs)) (ca : Cells I aA (flat intC arrs)) (cw : Cells I wA (flat wnC wants)) (hok : PkOk (⟨4, sender, media, ntp, rtp, pkts, octs, reps, name, srcs, seqs, base, ref, count, arrs, wants⟩ : Pk)) (hg : Good (⟨4, sender, media, ntp, rtp, pkts, octs, reps, name, srcs, seqs, base, ref, count, arrs, wants⟩ : Pk)) (hst : St I M w) :
    Calls Try.prog 18 #[.agg #[.int .i64 4, .int .u32 sender, .int .u32 media, .int .u64 ntp, .int .u32 rtp, .int .u32 pkts, .int .u32 octs, .slice rA reps.length rz, .string name, .slice sA srcs.length sz, .slice qA seqs.length qz, .int .u16 base, .int .u32 ref, .int .u8 count, .slice aA arrs.length az, .slice wA wants.length wz]] w (Bui I M (⟨4, sender, media, ntp, rtp, pkts, octs, reps, name, srcs, seqs, base, ref, count, arrs, wants⟩ : Pk)) := by
  have hs1 := hst.alloc 56 #[.int .i64 4, .int .u32 sender, .int .u32 media, .int .u64 ntp, .int .u32 rtp, .int .u32 pkts, .int .u32 octs, .slice rA reps.length rz, .string name, .slice sA srcs.length sz, .slice qA seqs.length qz, .int .u16 base, .int .u32 ref, .int .u8 count, .slice aA arrs.length az, .slice wA wants.length wz]
  have HOK := Lib.hid hok
  have HGD := Lib.hid hg
  have hbl := body_len hg
  obtain ⟨n1, n2, n3, n4, n5, n6⟩ := good_lens hg
  have HLOW := Lib.hid (lowP_ok hg)
  simp only [] at n1 n2 n3 n4 n5 n6
  have HCR := Lib.hid cr
  have HCS := Lib.hid cs
  have HCW := Lib.hid cw
  have HCQ := Lib.hid cq
  have HCA := Lib.hid ca
  clear cr cs cq ca cw hok hg hst
  obtain ⟨B, hB⟩ : ∃ B, B = bodyL (⟨4, sender, media, ntp, rtp, pkts, octs, reps, name, srcs, seqs, base, ref, count, arrs, wants⟩ : Pk) := ⟨_, rfl⟩
  rw [← hB] at hbl
  obtain ⟨low, hlow⟩ : ∃ low, low = lowP (⟨4, sender, media, ntp, rtp, pkts, octs, reps, name, srcs, seqs, base, ref, count, arrs, wants⟩ : Pk) := ⟨_, rfl⟩
  obtain ⟨q, hq⟩ : ∃ q, q = w.heap.size := ⟨_, rfl⟩
  rw [← hq] at hs1
  have HBE := Lib.hid hB
  have HLE0 := Lib.hid hlow
  clear hB hlow
  go_enter Try.func18, Try.ntmps18
  go_upto_region 1 with fail
  rw [← hq]
  clear hq
  generalize World.alloc w _ = W at hs1 ⊢
  obtain ⟨hc1, hf1, hl1⟩ := Blk.all (hs1.at 0 rfl)
  have HST := Lib.hid hs1
  clear hs1
  obtain ⟨hcq, hfq, hlq⟩ := Blk.all (HST.out.at 0 rfl)
  go_upto_region 23 with fail
  clear hcq hfq hlq hc1 hf1 hl1
  have HS := Lib.hid (HST.out.nil (e := 5) (size := 1))
  go_loopw [3, 110] (fun bv iv wr => ∃ (A : Option Addr) (n c i : Nat), bv = .slice A n c ∧ iv = .int .i64 i ∧ i ≤ srcs.length ∧ n = 4 * i ∧ Hid (∃ (J : Img), I.le J ∧ St J (row 5 1 (.slice A n c) n (bvs ((srcs.take i).flatMap u32B)) :: bk q 56 #[.int .i64 4, .int .u32 sender, .int .u32 media, .int .u64 ntp, .int .u32 rtp, .int .u32 pkts, .int .u32 octs, .slice rA reps.length rz, .string name, .slice sA srcs.length sz, .slice qA seqs.length qz, .int .u16 base, .int .u32 ref, .int .u8 count, .slice aA arrs.length az, .slice wA wants.length wz] :: M) wr)) (fun _ iv _ => srcs.length - (intOf iv).toNat)
  case atStart => exact ⟨none, 0, 0, 0, rfl, rfl, by omega, rfl, Lib.hid ⟨I, .refl I, HS.out⟩⟩
  case round =>
    obtain ⟨A, n, c, i, rfl, rfl, hi, hn, hh⟩ := hrel
    obtain ⟨J, hle, hs⟩ := hh.out
    clear hh HS
    by_cases hlt : i < srcs.length
    · obtain ⟨g, o, rfl, hcell⟩ := flat_get (s := 1) (fun _ => rfl) (HCS.out.mono hle) (by omega) (by decide)
      have y0 : wr.cell? ⟨g, o + i, none⟩ = some (.int .u32 srcs[i]) := by
        have := hcell _ _ hs i hlt 0 (by decide)
        simpa using this
      have hm := HOK.out.srcs _ (List.getElem_mem hlt)
      have hsn := fm_snoc u32B srcs i hlt
      obtain ⟨hcq, hfq, hlq⟩ := Blk.all (hs.at 1 rfl)
      generalize srcs[i] = x at y0 hm hsn
      obtain ⟨bl, hbe⟩ : ∃ bl, bl = (srcs.take i).flatMap u32B := ⟨_, rfl⟩
      have hbl2 : bl.length = n := by rw [hbe, fm_len (s := 4) (fun _ => rfl), List.length_take]; omega
      rw [← hbe] at hs hsn
      rw [← hbl2] at hs
      have HSN := Lib.hid hsn
      have HS := Lib.hid hs
      have HLE := Lib.hid hle
      have HLL := Lib.hid hbl2
      have HN := Lib.hid hn
      have HM := Lib.hid hm
      clear hbe hle hs hsn hcell hbl2 hn hm
      go_wp2_with fail
      go_at_call 36
      refine (fourR J _ _ x HM.out HS.out).mono ?_
      clear HS hcq hfq hlq y0
      rintro e w2 ⟨_, _, _, rfl, _, hs1, rfl, A1, c1, rfl, hc1, rfl⟩
      obtain ⟨J1, hle1, hs2, hb1⟩ := hs1.freezeRow
      have HS2 := Lib.hid hs2
      have HB := Lib.hid (show RoB (u32B x) (.slice A1 (u32B x).length c1) J1 from ⟨A1, c1, rfl, hb1⟩)
      have HLE2 := Lib.hid (HLE.out.trans hle1)
      clear hs1 hs2 hb1 hle1 hc1
      go_wp2_with (at_builtin; refine wpList_appB rfl _ _ rfl J1 _ _ _ _ _ (by rw [HLL.out]; rfl) rfl HS2.out HB.out (by have := HLL.out; have := HN.out; rw [u32B_len]; omega) ?_)
      intro v3 w3 hs4
      obtain ⟨A5, c5, rfl⟩ := own_form (show World.ownsRow _ 0 5 1 v3 _ _ from St.at hs4 0 rfl)
      have hl5 : (bl ++ u32B x).length = n + 4 := by rw [List.length_append, HLL.out, u32B_len]
      have hs5 := show St J1 _ w3 from hs4
      rw [hl5] at hs5 ⊢
      rw [← HSN.out] at hs5
      have HS5 := Lib.hid hs5
      clear hs4 hs5 HS2 HB hl5
      go_wp2
      go_roundw
      case rel => exact ⟨A5, n + 4, c5, i + 1, rfl, by go_num, by omega, by have := HN.out; omega, Lib.hid ⟨J1, HLE2.out, HS5.out⟩⟩
      case measure => simp [intOf]; omega
    · have hin : i = srcs.length := by omega
      rw [List.take_of_length_le (by omega)] at hs
      subst hin
      obtain ⟨fl, hfl⟩ : ∃ fl, fl = srcs.flatMap u32B := ⟨_, rfl⟩
      have hbq : fl = B := by rw [hfl, HBE.out]; exact body4 HGD.out
      have hn5 : fl.length = n := by rw [hfl, fm_len (s := 4) (fun _ => rfl)]; omega
      rw [← hfl] at hs
      subst hbq
      rw [← hn5] at hs ⊢
      have HS := Lib.hid hs
      have HLE := Lib.hid hle
      have HFI := Lib.hid hn5
      clear hs hle hfl hn5 hn
      generalize J = J2 at *
      go_upto_region 36 with fail
      go_loopw [3] (fun bv wr => ∃ (A : Option Addr) (n c : Nat), bv = .slice A n c ∧ n ≤ 4000 ∧ Hid (∃ (j : Nat) (J : Img), n = fl.length + j ∧ j ≤ (4 - fl.length % 4) % 4 ∧ I.le J ∧ St J (row 5 1 (.slice A n c) n (bvs (fl ++ List.replicate j 0)) :: bk q 56 #[.int .i64 4, .int .u32 sender, .int .u32 media, .int .u64 ntp, .int .u32 rtp, .int .u32 pkts, .int .u32 octs, .slice rA reps.length rz, .string name, .slice sA srcs.length sz, .slice qA seqs.length qz, .int .u16 base, .int .u32 ref, .int .u8 count, .slice aA arrs.length az, .slice wA wants.length wz] :: M) wr)) (fun bv _ => (4 - sliceLen bv % 4) % 4)
      case atStart => exact ⟨_, _, _, rfl, by omega, Lib.hid ⟨0, J2, rfl, Nat.zero_le _, HLE.out, by simpa using HS.out⟩⟩
      case round =>
        obtain ⟨A, n, c, rfl, hn, hh⟩ := hrel
        obtain ⟨j, J, hnj, hj, hle, hs⟩ := hh.out
        clear hh HS HLE
        have hln : (fl ++ List.replicate j 0).length = n := by rw [hnj]; simp
        have HLN := Lib.hid hln
        have HRP := Lib.hid (rep_snoc j)
        have HNJ := Lib.hid hnj
        by_cases hlt : j < (4 - fl.length % 4) % 4
        · have hm : ((n : Int) % 4 != 0) = true := by rw [bne_iff_ne]; omega
          obtain ⟨J3, hle3, hs3, hobj⟩ := (hs.alloc 5 #[.int .u8 0]).freezeBlk
          have HB1 := Lib.hid (show RoB [0] (.slice (some ⟨wr.heap.size, 0, none⟩) 1 1) J3 from ⟨_, 1, rfl, Byts.ofBlk hobj rfl⟩)
          obtain ⟨bl, hbe⟩ : ∃ bl, bl = fl ++ List.replicate j 0 := ⟨_, rfl⟩
          rw [← hbe] at hs3 hln
          rw [← hln] at hs3
          have HBL := Lib.hid hbe
          have HS3 := Lib.hid hs3
          have HLE := Lib.hid (hle.trans hle3)
          have HLT := Lib.hid hlt
          have HLL := Lib.hid hln
          clear hbe hle hle3 hs hs3 hobj hnj hj hln hlt
          go_wp2_with (at_builtin; refine wpList_appB rfl _ _ rfl J3 _ _ _ _ _ (by rw [HLL.out]; rfl) rfl HS3.out HB1.out (by have := HLL.out; simp only [List.length_cons, List.length_nil]; omega) ?_)
          intro v3 w3 hs4
          obtain ⟨A5, c5, rfl⟩ := own_form (show World.ownsRow _ 0 5 1 v3 _ _ from St.at hs4 0 rfl)
          have hl5 : (bl ++ [0]).length = n + 1 := by rw [List.length_append, HLL.out]; rfl
          have hs5 := show St J3 _ w3 from hs4
          rw [hl5] at hs5 ⊢
          have HS5 := Lib.hid hs5
          clear hs4 hs5 HS3 HB1 hl5
          go_wp2
          go_roundw
          case rel =>
            refine ⟨A5, n + 1, c5, rfl, by have := HLT.out; have := HNJ.out; omega, Lib.hid ⟨j + 1, J3, by have := HNJ.out; omega, by have := HLT.out; omega, HLE.out, ?_⟩⟩
            have := HS5.out
            rw [HBL.out, List.append_assoc, ← HRP.out] at this
            exact this
          case measure =>
            have h1 := HNJ.out
            have h2 := HLT.out
            show (4 - (n + 1) % 4) % 4 < (4 - n % 4) % 4
            omega
        · have hm : ((n : Int) % 4 != 0) = false := by rw [bne_eq_false_iff_eq]; omega
          have hjj : j = (4 - fl.length % 4) % 4 := by omega
          rw [hjj, even_rep] at hs hln
          obtain ⟨E, hE⟩ : ∃ E, E = evenL fl := ⟨_, rfl⟩
          rw [← hE] at hs hln
          have HE := Lib.hid hE
          obtain ⟨J3, hle3, hs3, hb3⟩ := hs.freezeRow
          have HS3 := Lib.hid hs3
          have HB3 := Lib.hid (show Byts J3 A E from hb3)
          have HLE := Lib.hid (hle.trans hle3)
          have HLL := Lib.hid hln
          clear hs hs3 hb3 hle hle3 hE hln hnj hj hjj hlt
          have hq1 : (srcs.length : Int) ≤ 31 := by omega
          have HV := Lib.hid (show [byteOf (128 + (srcs.length : Int)), byteOf 203] ++ u16B ((E.length / 4 : Nat) : Int) ++ E = packB (⟨4, sender, media, ntp, rtp, pkts, octs, reps, name, srcs, seqs, base, ref, count, arrs, wants⟩ : Pk) by
            have e1 : 128 + low = 128 + (srcs.length : Int) := by rw [HLE0.out]; rw [low4 HGD.out]
            rw [← e1, HLE0.out, HE.out, HBE.out]
            rfl)
          obtain ⟨J4, hle4, hs4, hobj⟩ := (HS3.out.alloc 5 #[.int .u8 (128 + (srcs.length : Int)), .int .u8 203]).freezeBlk
          have HB4 := Lib.hid (show Byts J4 (some ⟨wr.heap.size, 0, none⟩) [byteOf (128 + (srcs.length : Int)), byteOf 203] from Byts.ofBlk hobj (lit_two (by omega) (by omega)))
          have HT := Lib.hid (twoR J4 _ _ ((n : Int) / 4) hs4)
          have HLE4 := Lib.hid hle4
          clear hle4 hs4 hobj HS3
          go_wp2_with fail
          go_at_call 39
          refine HT.out.mono ?_
          clear HT
          rintro e w2 ⟨_, _, _, rfl, _, hs1, rfl, A6, c6, rfl, hc6, rfl⟩
          obtain ⟨J5, hle5, hs5, hb5⟩ := hs1.freezeRow
          have hb5 : Byts J5 A6 (u16B ((n : Int) / 4 % 65536)) := hb5
          obtain ⟨J6, hle6, hs6, hobj⟩ := (hs5.alloc 24 #[.slice (some ⟨wr.heap.size, 0, none⟩) 2 2, .slice A6 (u16B ((n : Int) / 4 % 65536)).length c6, .slice A n c]).freezeBlk
          have hcs := Cells.ofBlk hobj
          have HJ := Lib.hid (joinR J6 (bk q 56 #[.int .i64 4, .int .u32 sender, .int .u32 media, .int .u64 ntp, .int .u32 rtp, .int .u32 pkts, .int .u32 octs, .slice rA reps.length rz, .string name, .slice sA srcs.length sz, .slice qA seqs.length qz, .int .u16 base, .int .u32 ref, .int .u8 count, .slice aA arrs.length az, .slice wA wants.length wz] :: M) _ (some ⟨w2.heap.size, 0, none⟩) 3 [[byteOf (128 + (srcs.length : Int)), byteOf 203], u16B ((n : Int) / 4 % 65536), E] [.slice (some ⟨wr.heap.size, 0, none⟩) 2 2, .slice A6 (u16B ((n : Int) / 4 % 65536)).length c6, .slice A n c] hcs ⟨⟨_, 2, rfl, (HB4.out.mono hle5).mono hle6⟩, ⟨A6, c6, rfl, hb5.mono hle6⟩, ⟨A, c, by rw [HLL.out], ((HB3.out.mono HLE4.out).mono hle5).mono hle6⟩, trivial⟩ (by simp) (by have := HLL.out; simp only [List.flatten_cons, List.flatten_nil, List.length_append, List.length_cons, List.length_nil, u16B_len]; omega) hs6)
          have HL := Lib.hid (((HLE.out.trans HLE4.out).trans hle5).trans hle6)
          clear hs1 hs5 hs6 hb5 hc6 hobj hcs hle5 hle6 HB3 HB4
          go_wp2_with fail
          go_at_call 35
          refine HJ.out.mono ?_
          clear HJ
          rintro e w4 ⟨_, _, _, rfl, _, hs7, rfl, A7, c7, rfl, hc7, rfl⟩
          have HPE := Lib.hid (show ([[byteOf (128 + (srcs.length : Int)), byteOf 203], u16B ((n : Int) / 4 % 65536), E] : List (List UInt8)).flatten = packB (⟨4, sender, media, ntp, rtp, pkts, octs, reps, name, srcs, seqs, base, ref, count, arrs, wants⟩ : Pk) by
            rw [← HV.out, HLL.out]
            have e2 : (n : Int) / 4 % 65536 = ((n / 4 : Nat) : Int) := by omega
            rw [e2]
            simp)
          rw [HPE.out] at hs7 hc7 ⊢
          have HF := Lib.hid (show Bui I M (⟨4, sender, media, ntp, rtp, pkts, octs, reps, name, srcs, seqs, base, ref, count, arrs, wants⟩ : Pk) (.returned _) w4 from Ret.mk HL.out (St.swap1 hs7).drop ⟨A7, c7, rfl, rfl⟩)
          clear hs7 hc7 HPE HV
          generalize packB (⟨4, sender, media, ntp, rtp, pkts, octs, reps, name, srcs, seqs, base, ref, count, arrs, wants⟩ : Pk) = pbs at *
          go_wp2
          go_returns
          exact HF.out
end Go.Proofs.Ytddopbbmgpnjjaa
