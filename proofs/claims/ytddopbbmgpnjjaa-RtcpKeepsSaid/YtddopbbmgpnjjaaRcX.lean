/- rtcp.Packet.write of a good packet, of whatever kind. -/
import Derived.Test.YtddopbbmgpnjjaaRcP
import Derived.Deep.CutBlock
import Derived.Test.YtddopbbmgpnjjaaRcQ
import Derived.Test.YtddopbbmgpnjjaaRn
namespace Go.Proofs.Ytddopbbmgpnjjaa
open Go.RowKit
set_option linter.unusedSimpArgs false


set_option maxRecDepth 100000 in
set_option maxHeartbeats 40000000 in
theorem write1 (I : Img) (M : List Res) (w : World) (sender : Int) (media : Int) (ntp : Int) (rtp : Int) (pkts : Int) (octs : Int) (base : Int) (ref : Int) (count : Int) (name : ByteArray) (reps : List Rp) (srcs seqs arrs : List Int) (wants : List Wn) (rA : Option Addr) (rz : Nat) (sA : Option Addr) (sz : Nat) (qA : Option Addr) (qz : Nat) (aA : Option Addr) (az : Nat) (wA : Option Addr) (wz : Nat) (cr : Cells I rA (flat repC reps)) (cs : Cells I sA (flat u32C srcs)) (cq : Cells I qA (flat u16C seqs)) (ca : Cells I aA (flat intC arrs)) (cw : Cells I wA (flat wnC wants)) (p : Nat) (v : Value) (lp : List UInt8) (hok : PkOk (⟨1, sender, media, ntp, rtp, pkts, octs, reps, name, srcs, seqs, base, ref, count, arrs, wants⟩ : Pk)) (hg : Good (⟨1, sender, media, ntp, rtp, pkts, octs, reps, name, srcs, seqs, base, ref, count, arrs, wants⟩ : Pk)) (hl0 : lp.length ≤ 70368744170000) (hst : St I (row 5 1 v lp.length (bvs lp) :: bk p 60 #[v] :: M) w) :
    Calls Try.prog 21 #[.agg #[.int .i64 1, .int .u32 sender, .int .u32 media, .int .u64 ntp, .int .u32 rtp, .int .u32 pkts, .int .u32 octs, .slice rA reps.length rz, .string name, .slice sA srcs.length sz, .slice qA seqs.length qz, .int .u16 base, .int .u32 ref, .int .u8 count, .slice aA arrs.length az, .slice wA wants.length wz], .pointer (some ⟨p, 0, none⟩)] w (Ret I (fun v' _ M' => Wrote M p 60 (lp ++ packB (⟨1, sender, media, ntp, rtp, pkts, octs, reps, name, srcs, seqs, base, ref, count, arrs, wants⟩ : Pk)) v' M')) := by
  have hs1 := hst.alloc 51 #[.int .i64 1, .int .u32 sender, .int .u32 media, .int .u64 ntp, .int .u32 rtp, .int .u32 pkts, .int .u32 octs, .slice rA reps.length rz, .string name, .slice sA srcs.length sz, .slice qA seqs.length qz, .int .u16 base, .int .u32 ref, .int .u8 count, .slice aA arrs.length az, .slice wA wants.length wz]
  have HOK := Lib.hid hok
  obtain ⟨n1, n2, n3, n4, n5, n6⟩ := good_lens hg
  have HLOW := Lib.hid (lowP_ok hg)
  simp only [] at n1 n2 n3 n4 n5 n6
  have HCR := Lib.hid cr
  have HCS := Lib.hid cs
  have HCW := Lib.hid cw
  have HCQ := Lib.hid cq
  have HCA := Lib.hid ca
  clear cr cs cq ca cw

  have HW := Lib.hid (whereC 1 (w.alloc (.cells #[.int .i64 1, .int .u32 sender, .int .u32 media, .int .u64 ntp, .int .u32 rtp, .int .u32 pkts, .int .u32 octs, .slice rA reps.length rz, .string name, .slice sA srcs.length sz, .slice qA seqs.length qz, .int .u16 base, .int .u32 ref, .int .u8 count, .slice aA arrs.length az, .slice wA wants.length wz] 51)))
  obtain ⟨q1, hq1⟩ : ∃ q, q = w.heap.size := ⟨_, rfl⟩
  rw [← hq1] at hs1
  clear hst hok hg
  go_enter Try.func21, Try.ntmps21
  go_upto_region 1 with fail
  rw [← hq1]
  clear hq1
  generalize World.alloc w _ = W at hs1 HW ⊢
  obtain ⟨hc1, hf1, hl1⟩ := Blk.all (hs1.at 0 rfl)
  have HS0 := Lib.hid hs1
  clear hs1
  go_wp2_with fail
  go_at_call 47
  refine HW.out.mono ?_
  rintro e w2 ⟨rfl, hw⟩
  subst hw
  simp only [whereP, if_true, if_false, Int.reduceEq, Int.reduceNeg]
  clear HW
  go_upto_region 5 with fail
  have hs : St I (row 5 1 (.slice none 0 0) ([] : List UInt8).length (bvs []) :: bk W.heap.size 60 #[.slice none 0 0] :: bk q1 51 #[.int .i64 1, .int .u32 sender, .int .u32 media, .int .u64 ntp, .int .u32 rtp, .int .u32 pkts, .int .u32 octs, .slice rA reps.length rz, .string name, .slice sA srcs.length sz, .slice qA seqs.length qz, .int .u16 base, .int .u32 ref, .int .u8 count, .slice aA arrs.length az, .slice wA wants.length wz] :: row 5 1 v lp.length (bvs lp) :: bk p 60 #[v] :: M) (W.alloc (.cells #[.slice none 0 0] 60)) := (HS0.out.alloc 60 #[.slice none 0 0]).nil
  obtain ⟨B, hB⟩ : ∃ B, B = W.heap.size := ⟨_, rfl⟩
  rw [← hB] at hs ⊢
  generalize World.alloc W _ = W2 at hs ⊢
  clear hB hc1 hf1 hl1 HS0
  obtain ⟨cs1, hcs1⟩ : ∃ z : Array Value, z = #[.int .i64 1, .int .u32 sender, .int .u32 media, .int .u64 ntp, .int .u32 rtp, .int .u32 pkts, .int .u32 octs, .slice rA reps.length rz, .string name, .slice sA srcs.length sz, .slice qA seqs.length qz, .int .u16 base, .int .u32 ref, .int .u8 count, .slice aA arrs.length az, .slice wA wants.length wz] := ⟨_, rfl⟩
  rw [← hcs1] at hs
  have HC1 := Lib.hid hcs1
  clear hcs1
  obtain ⟨vb, hvb⟩ : ∃ vb : Value, vb = .slice none 0 0 := ⟨_, rfl⟩
  rw [← hvb] at hs
  clear hvb
  obtain ⟨lw, hlw⟩ : ∃ lw, lw = lp := ⟨_, rfl⟩
  rw [← hlw] at hs hl0
  have HLW := Lib.hid hlw
  clear hlw
  obtain ⟨l0, e0⟩ : ∃ z : List UInt8, z = [] := ⟨_, rfl⟩
  rw [← e0] at hs
  have HL0 := Lib.hid (show l0.length ≤ 0 from by rw [e0]; exact Nat.le_refl _)
  have HE0 := Lib.hid e0
  have HS := Lib.hid hs
  clear hs e0
  obtain ⟨hc1, hf1, hl1⟩ := Blk.all (HS.out.at 2 rfl)
  rw [HC1.out] at hc1
  obtain ⟨hcb, hfb, hlb⟩ := (show Blk _ B 60 #[_] from HS.out.at 1 rfl).one
  have HC := Lib.hid (wU32 (I := I) B 60 vb l0 sender HS.out (by have := HL0.out; omega) HOK.out.sender)
  go_wp2_with fail
  go_at_call 48
  refine HC.out.mono ?_
  clear hc1 hf1 hl1 hcb hfb hlb
  clear HS HC vb
  rintro e w2 ⟨_, _, _, rfl, _, hs, rfl, rfl, vb, rfl⟩
  obtain ⟨l1, e1⟩ : ∃ z, z = l0 ++ u32B sender := ⟨_, rfl⟩
  rw [← e1] at hs
  have HL1 := Lib.hid (show l1.length ≤ 4 from by rw [e1, List.length_append]; have := HL0.out; have : (u32B sender).length = 4 := (by first | rfl | simp); omega)
  have HE1 := Lib.hid e1
  clear e1
  have HS := Lib.hid hs
  clear hs
  obtain ⟨hc1, hf1, hl1⟩ := Blk.all (HS.out.at 2 rfl)
  rw [HC1.out] at hc1
  obtain ⟨hcb, hfb, hlb⟩ := (show Blk _ B 60 #[_] from HS.out.at 1 rfl).one
  obtain ⟨hn1, hn2⟩ : 0 ≤ ntp ∧ ntp ≤ 18446744073709551615 := HOK.out.ntp
  have HN5 := Lib.hid (show ∀ n ∈ [ntp / 4294967296, ntp % 4294967296, rtp, pkts, octs], 0 ≤ n ∧ n ≤ 4294967295 from by
    intro n hn
    have h1 := HOK.out.rtp; have h2 := HOK.out.pkts; have h3 := HOK.out.octs
    simp only [] at h1 h2 h3
    simp only [List.mem_cons, List.mem_nil_iff, or_false] at hn
    rcases hn with rfl | rfl | rfl | rfl | rfl <;> omega)
  go_upto_region 12 with fail
  obtain ⟨L5, hL5⟩ : ∃ z : List Int, z = [ntp / 4294967296, ntp % 4294967296, rtp, pkts, octs] := ⟨_, rfl⟩
  have HL5 := Lib.hid hL5
  clear hL5
  clear hc1 hf1 hl1 hcb hfb hlb hn1 hn2
  go_loopw [67] (fun iv wr => ∃ i : Nat, i ≤ 5 ∧ iv = .int .i64 i ∧ Hid (∃ vb, St I (row 5 1 vb (l1 ++ u32Bs (L5.take i)).length (bvs (l1 ++ u32Bs (L5.take i))) :: bk B 60 #[vb] :: bk q1 51 cs1 :: row 5 1 v lw.length (bvs lw) :: bk p 60 #[v] :: M) wr)) (fun iv _ => 5 - (intOf iv).toNat)
  case atStart => exact ⟨0, by omega, rfl, vb, by simpa [u32Bs] using HS.out⟩
  case round =>
    obtain ⟨i, hi, rfl, hh⟩ := hrel
    obtain ⟨vb, hs⟩ := hh.out
    have HS := Lib.hid hs
    clear hh hs
    by_cases hlt : i < 5
    · skip
      have hlr : i < [ntp / 4294967296, ntp % 4294967296, rtp, pkts, octs].length := hlt
      have hix := idx5 (ntp / 4294967296) (ntp % 4294967296) rtp pkts octs i hlr
      have hmem := HN5.out _ (List.getElem_mem hlr)
      have htk : L5.take (i + 1) = L5.take i ++ [[ntp / 4294967296, ntp % 4294967296, rtp, pkts, octs][i]'hlr] := by rw [HL5.out]; exact List.take_succ_eq_append_getElem hlr
      obtain ⟨y, hy⟩ : ∃ y, y = [ntp / 4294967296, ntp % 4294967296, rtp, pkts, octs][i]'hlr := ⟨_, rfl⟩
      have hy2 : [ntp / 4294967296, ntp % 4294967296, rtp, pkts, octs][i]'hlr = y := hy.symm
      rw [← hy] at hmem htk
      simp only [hy2] at hix
      have HTK := Lib.hid htk
      have hln : (L5.take i).length ≤ 5 := by rw [List.length_take]; exact Nat.le_trans (Nat.min_le_left _ _) hi
      have HC := Lib.hid (wU32 (I := I) B 60 vb _ y HS.out (by rw [List.length_append, u32Bs_len]; have := HL1.out; omega) hmem)
      clear htk hy hy2 hmem
      go_wp2_with fail
      go_at_call 48
      refine HC.out.mono ?_
      rintro e w2 ⟨_, _, _, rfl, _, hs, rfl, rfl, vb, rfl⟩
      rw [List.append_assoc, ← u32Bs_snoc, ← HTK.out] at hs
      have HS2 := Lib.hid hs
      clear hs HS HC
      go_wp2
      go_roundw
      case rel => exact ⟨i + 1, by omega, by go_num, vb, HS2.out⟩
      case measure => simp [intOf]; omega
    · skip
      have hin : i = 5 := by omega
      have hs := HS.out
      rw [hin, show L5.take 5 = [ntp / 4294967296, ntp % 4294967296, rtp, pkts, octs] from by rw [HL5.out]; rfl] at hs
      subst hin
      clear HS
      obtain ⟨l2, e2⟩ : ∃ z, z = l1 ++ u32Bs [ntp / 4294967296, ntp % 4294967296, rtp, pkts, octs] := ⟨_, rfl⟩
      rw [← e2] at hs
      have HL2 := Lib.hid (show l2.length ≤ 24 from by rw [e2, List.length_append]; have := HL1.out; have := u32Bs_len [ntp / 4294967296, ntp % 4294967296, rtp, pkts, octs]; simp only [List.length_cons, List.length_nil] at this; omega)
      have HE2 := Lib.hid e2
      clear e2
      have HS := Lib.hid hs
      clear hs
      obtain ⟨hc1, hf1, hl1⟩ := Blk.all (HS.out.at 2 rfl)
      rw [HC1.out] at hc1
      obtain ⟨hcb, hfb, hlb⟩ := (show Blk _ B 60 #[_] from HS.out.at 1 rfl).one
      go_upto_region 47 with fail
      go_upto_region 48 with fail
      clear hc1 hf1 hl1 hcb hfb hlb
      go_loopw [160] (fun iv wr => ∃ i : Nat, i ≤ reps.length ∧ iv = .int .i64 i ∧ Hid (∃ vb, St I (row 5 1 vb (l2 ++ (reps.take i).flatMap repL).length (bvs (l2 ++ (reps.take i).flatMap repL)) :: bk B 60 #[vb] :: bk q1 51 cs1 :: row 5 1 v lw.length (bvs lw) :: bk p 60 #[v] :: M) wr)) (fun iv _ => reps.length - (intOf iv).toNat)
      case atStart => exact ⟨0, by omega, rfl, vb, by simpa using HS.out⟩
      case round =>
        obtain ⟨i, hi, rfl, hh⟩ := hrel
        obtain ⟨vb, hs⟩ := hh.out
        have HS := Lib.hid hs
        clear hh hs
        by_cases hlt : i < reps.length
        · skip
          have hsn := fm_snoc repL reps i hlt
          obtain ⟨g, o, rfl, hcell⟩ := flat_get (s := 7) (fun _ => rfl) HCR.out (by omega) (by decide)
          have hm := HOK.out.reps _ (List.getElem_mem hlt)
          replace hcell : ∀ j, j < 7 → wr.cell? ⟨g, o + i * 7 + j, none⟩ = (repC reps[i])[j]? := fun j hj => hcell _ _ HS.out i hlt j hj
          obtain ⟨x, hxe⟩ : ∃ x, x = reps[i] := ⟨_, rfl⟩
          rw [← hxe] at hcell hm hsn
          have z0 : wr.cell? ⟨g, o + i * 7, none⟩ = some (.int .u32 x.src) := hcell 0 (by decide)
          have z1 : wr.cell? ⟨g, o + i * 7 + 1, none⟩ = some (.int .u8 x.lost) := hcell 1 (by decide)
          have z2 : wr.cell? ⟨g, o + i * 7 + 2, none⟩ = some (.int .u32 x.total) := hcell 2 (by decide)
          have z3 : wr.cell? ⟨g, o + i * 7 + 3, none⟩ = some (.int .u32 x.high) := hcell 3 (by decide)
          have z4 : wr.cell? ⟨g, o + i * 7 + 4, none⟩ = some (.int .u32 x.jit) := hcell 4 (by decide)
          have z5 : wr.cell? ⟨g, o + i * 7 + 5, none⟩ = some (.int .u32 x.last) := hcell 5 (by decide)
          have z6 : wr.cell? ⟨g, o + i * 7 + 6, none⟩ = some (.int .u32 x.delay) := hcell 6 (by decide)
          obtain ⟨lb, e1⟩ : ∃ z, z = l2 ++ (reps.take i).flatMap repL := ⟨_, rfl⟩
          have HL := Lib.hid (show lb.length ≤ 768 from by rw [e1, List.length_append]; have := HL2.out; have := fm_le (f := repL) (s := 24) (n := 31) (fun x => by first | rfl | exact repL_len x) reps i (by omega); omega)
          have hs := HS.out
          rw [← e1] at hs
          have HSN := Lib.hid (And.intro e1 hsn)
          clear HS hcell hsn hxe e1
          have HS := Lib.hid hs
          clear hs
          have hs := HS.out.grow (.cells #[.int .u32 x.src, .int .u8 x.lost, .int .u32 x.total, .int .u32 x.high, .int .u32 x.jit, .int .u32 x.last, .int .u32 x.delay] 65)
          have HC := Lib.hid (repW I (bk q1 51 cs1 :: row 5 1 v lw.length (bvs lw) :: bk p 60 #[v] :: M) _ B 60 vb lb x hm hs (by have := HL.out; omega))
          clear hs HS hm
          go_wp2_with fail
          go_at_call 54
          refine HC.out.mono ?_
          rintro e w2 ⟨_, _, _, rfl, _, hs, rfl, rfl, vb, rfl⟩
          rw [HSN.out.1, List.append_assoc, ← HSN.out.2] at hs
          have HS := Lib.hid hs
          clear hs HC HSN
          go_wp2
          (refine ⟨?_, ?measure⟩
           (repeat apply Exists.intro)
           refine ⟨?rel, rfl⟩)
          case rel => exact ⟨i + 1, by omega, by go_num, vb, HS.out⟩
          case measure => simp [intOf]; omega
        · skip
          have hin : i = reps.length := by omega
          have hs := HS.out
          rw [hin, List.take_length] at hs
          subst hin
          clear HS
          obtain ⟨l3, e3⟩ : ∃ z, z = l2 ++ reps.flatMap repL := ⟨_, rfl⟩
          rw [← e3] at hs
          have HL3 := Lib.hid (show l3.length ≤ 768 from by rw [e3, List.length_append]; have := HL2.out; have := fm_len (f := repL) (s := 24) (fun x => by first | rfl | exact repL_len x) reps; omega)
          have HE3 := Lib.hid e3
          clear e3
          have HS := Lib.hid hs
          clear hs
          obtain ⟨hc1, hf1, hl1⟩ := Blk.all (HS.out.at 2 rfl)
          rw [HC1.out] at hc1
          obtain ⟨hcb, hfb, hlb⟩ := (show Blk _ B 60 #[_] from HS.out.at 1 rfl).one
          go_upto_region 53 with fail
          clear hc1 hf1 hl1 hcb hfb hlb
          go_loopw [170] (fun iv wr => ∃ i : Nat, i ≤ srcs.length ∧ iv = .int .i64 i ∧ Hid (∃ vb, St I (row 5 1 vb (l3 ++ (srcs.take i).flatMap u32B).length (bvs (l3 ++ (srcs.take i).flatMap u32B)) :: bk B 60 #[vb] :: bk q1 51 cs1 :: row 5 1 v lw.length (bvs lw) :: bk p 60 #[v] :: M) wr)) (fun iv _ => srcs.length - (intOf iv).toNat)
          case atStart => exact ⟨0, by omega, rfl, vb, by simpa using HS.out⟩
          case round =>
            obtain ⟨i, hi, rfl, hh⟩ := hrel
            obtain ⟨vb, hs⟩ := hh.out
            have HS := Lib.hid hs
            clear hh hs
            by_cases hlt : i < srcs.length
            · skip
              have hsn := fm_snoc u32B srcs i hlt
              obtain ⟨g, o, rfl, hcell⟩ := flat_get (s := 1) (fun _ => rfl) HCS.out (by omega) (by decide)
              have hm := HOK.out.srcs _ (List.getElem_mem hlt)
              replace hcell : ∀ j, j < 1 → wr.cell? ⟨g, o + i * 1 + j, none⟩ = (u32C srcs[i])[j]? := fun j hj => hcell _ _ HS.out i hlt j hj
              obtain ⟨x, hxe⟩ : ∃ x, x = srcs[i] := ⟨_, rfl⟩
              rw [← hxe] at hcell hm hsn
              have z0 : wr.cell? ⟨g, o + i, none⟩ = some (.int .u32 x) := by have := hcell 0 (by decide); simpa using this
              obtain ⟨lb, e1⟩ : ∃ z, z = l3 ++ (srcs.take i).flatMap u32B := ⟨_, rfl⟩
              have HL := Lib.hid (show lb.length ≤ 892 from by rw [e1, List.length_append]; have := HL3.out; have := fm_le (f := u32B) (s := 4) (n := 31) (fun x => by first | rfl | exact repL_len x) srcs i (by omega); omega)
              have hs := HS.out
              rw [← e1] at hs
              have HSN := Lib.hid (And.intro e1 hsn)
              clear HS hcell hsn hxe e1
              have HS := Lib.hid hs
              clear hs
              have HC := Lib.hid (wU32 (I := I) B 60 vb lb x HS.out (by have := HL.out; omega) hm)
              clear HS hm
              go_wp2_with fail
              go_at_call 48
              refine HC.out.mono ?_
              rintro e w2 ⟨_, _, _, rfl, _, hs, rfl, rfl, vb, rfl⟩
              rw [HSN.out.1, List.append_assoc, ← HSN.out.2] at hs
              have HS := Lib.hid hs
              clear hs HC HSN
              go_wp2
              (refine ⟨?_, ?measure⟩
               (repeat apply Exists.intro)
               refine ⟨?rel, rfl⟩)
              case rel => exact ⟨i + 1, by omega, by go_num, vb, HS.out⟩
              case measure => simp [intOf]; omega
            · skip
              have hin : i = srcs.length := by omega
              have hs := HS.out
              rw [hin, List.take_length] at hs
              subst hin
              clear HS
              obtain ⟨l4, e4⟩ : ∃ z, z = l3 ++ srcs.flatMap u32B := ⟨_, rfl⟩
              rw [← e4] at hs
              have HL4 := Lib.hid (show l4.length ≤ 892 from by rw [e4, List.length_append]; have := HL3.out; have := fm_len (f := u32B) (s := 4) (fun x => by first | rfl | exact repL_len x) srcs; omega)
              have HE4 := Lib.hid e4
              clear e4
              have HS := Lib.hid hs
              clear hs
              obtain ⟨hc1, hf1, hl1⟩ := Blk.all (HS.out.at 2 rfl)
              rw [HC1.out] at hc1
              obtain ⟨hcb, hfb, hlb⟩ := (show Blk _ B 60 #[_] from HS.out.at 1 rfl).one
              go_upto_region 58 with fail
              clear hc1 hf1 hl1 hcb hfb hlb
              go_loopw [180] (fun iv wr => ∃ i : Nat, i ≤ wants.length ∧ iv = .int .i64 i ∧ Hid (∃ vb, St I (row 5 1 vb (l4 ++ (wants.take i).flatMap wnL).length (bvs (l4 ++ (wants.take i).flatMap wnL)) :: bk B 60 #[vb] :: bk q1 51 cs1 :: row 5 1 v lw.length (bvs lw) :: bk p 60 #[v] :: M) wr)) (fun iv _ => wants.length - (intOf iv).toNat)
              case atStart => exact ⟨0, by omega, rfl, vb, by simpa using HS.out⟩
              case round =>
                obtain ⟨i, hi, rfl, hh⟩ := hrel
                obtain ⟨vb, hs⟩ := hh.out
                have HS := Lib.hid hs
                clear hh hs
                by_cases hlt : i < wants.length
                · skip
                  have hsn := fm_snoc wnL wants i hlt
                  obtain ⟨g, o, rfl, hcell⟩ := flat_get (s := 2) (fun _ => rfl) HCW.out (by omega) (by decide)
                  have hm := HOK.out.wants _ (List.getElem_mem hlt)
                  replace hcell : ∀ j, j < 2 → wr.cell? ⟨g, o + i * 2 + j, none⟩ = (wnC wants[i])[j]? := fun j hj => hcell _ _ HS.out i hlt j hj
                  obtain ⟨x, hxe⟩ : ∃ x, x = wants[i] := ⟨_, rfl⟩
                  rw [← hxe] at hcell hm hsn
                  have z0 : wr.cell? ⟨g, o + i * 2, none⟩ = some (.int .u32 x.src) := hcell 0 (by decide)
                  have z1 : wr.cell? ⟨g, o + i * 2 + 1, none⟩ = some (.int .u8 x.seq) := hcell 1 (by decide)
                  obtain ⟨lb, e1⟩ : ∃ z, z = l4 ++ (wants.take i).flatMap wnL := ⟨_, rfl⟩
                  have HL := Lib.hid (show lb.length ≤ 956 from by rw [e1, List.length_append]; have := HL4.out; have := fm_le (f := wnL) (s := 8) (n := 8) (fun x => by first | rfl | exact repL_len x) wants i (by omega); omega)
                  have hs := HS.out
                  rw [← e1] at hs
                  have HSN := Lib.hid (And.intro e1 hsn)
                  clear HS hcell hsn hxe e1
                  have HS := Lib.hid hs
                  clear hs
                  have hs := (HS.out.alloc 68 #[.int .u32 x.src, .int .u8 x.seq]).swap2.swap1
                  obtain ⟨qw, hqw⟩ : ∃ q, q = wr.heap.size := ⟨_, rfl⟩
                  rw [← hqw] at hs
                  have HQW := Lib.hid hqw
                  clear hqw
                  have HC := Lib.hid (wU32 (I := I) (M := bk qw 68 #[.int .u32 x.src, .int .u8 x.seq] :: bk q1 51 cs1 :: row 5 1 v lw.length (bvs lw) :: bk p 60 #[v] :: M) B 60 vb lb x.src hs (by have := HL.out; omega) hm.1)
                  have HM := Lib.hid hm
                  have hx2 := hm.2
                  obtain ⟨hx3, hx4⟩ := hx2
                  have hsq := hs
                  clear hs HS hm
                  go_upto_region 60 with fail
                  rw [← HQW.out]
                  obtain ⟨hx5, hx6, hx7, hx8, hx9⟩ := (show Blk _ qw 68 #[.int .u32 x.src, .int .u8 x.seq] from hsq.at 2 rfl).two
                  go_wp2_with fail
                  go_at_call 48
                  refine HC.out.mono ?_
                  rintro e w2 ⟨_, _, _, rfl, _, hs, rfl, rfl, vb, rfl⟩
                  clear hx5 hx6 hx7 hx8 hx9 hsq
                  obtain ⟨hx5, hx6, hx7, hx8, hx9⟩ := (show Blk _ qw 68 #[.int .u32 x.src, .int .u8 x.seq] from hs.at 2 rfl).two
                  obtain ⟨lc, hlc⟩ : ∃ z, z = lb ++ u32B x.src := ⟨_, rfl⟩
                  rw [← hlc] at hs
                  have HC2 := Lib.hid (wU32 (I := I) B 60 vb lc (x.seq * 16777216) hs (by rw [hlc, List.length_append, u32B_len]; have := HL.out; omega) ⟨by omega, by omega⟩)
                  have HLC := Lib.hid hlc
                  clear hs hlc HC
                  go_wp2_with fail
                  go_at_call 48
                  refine HC2.out.mono ?_
                  rintro e w3 ⟨_, _, _, rfl, _, hs, rfl, rfl, vb, rfl⟩
                  rw [HLC.out, List.append_assoc lb] at hs
                  have HC := HC2
                  clear HC2 HLC
                  replace hs : St I (row 5 1 vb (lb ++ wnL x).length (bvs (lb ++ wnL x)) :: bk B 60 #[vb] :: bk q1 51 cs1 :: row 5 1 v lw.length (bvs lw) :: bk p 60 #[v] :: M) w3 := hs.swap1.swap2.drop
                  clear hx5 hx6 hx7 hx8 hx9
                  rw [HSN.out.1, List.append_assoc, ← HSN.out.2] at hs
                  have HS := Lib.hid hs
                  clear hs HC HSN
                  go_wp2
                  (refine ⟨?_, ?measure⟩
                   (repeat apply Exists.intro)
                   refine ⟨?rel, rfl⟩)
                  case rel => exact ⟨i + 1, by omega, by go_num, vb, HS.out⟩
                  case measure => simp [intOf]; omega
                · skip
                  have hin : i = wants.length := by omega
                  have hs := HS.out
                  rw [hin, List.take_length] at hs
                  subst hin
                  clear HS
                  obtain ⟨l5, e5⟩ : ∃ z, z = l4 ++ wants.flatMap wnL := ⟨_, rfl⟩
                  rw [← e5] at hs
                  have HL5 := Lib.hid (show l5.length ≤ 956 from by rw [e5, List.length_append]; have := HL4.out; have := fm_len (f := wnL) (s := 8) (fun x => by first | rfl | exact repL_len x) wants; omega)
                  have HE5 := Lib.hid e5
                  clear e5
                  have HS := Lib.hid hs
                  clear hs
                  obtain ⟨hc1, hf1, hl1⟩ := Blk.all (HS.out.at 2 rfl)
                  rw [HC1.out] at hc1
                  obtain ⟨hcb, hfb, hlb⟩ := (show Blk _ B 60 #[_] from HS.out.at 1 rfl).one
                  have HC := Lib.hid (evenC I _ _ B 60 vb l5 HS.out (by have := HL5.out; omega))
                  go_wp2_with fail
                  go_at_call 55
                  refine HC.out.mono ?_
                  clear hc1 hf1 hl1 hcb hfb hlb
                  clear HS HC vb
                  rintro e w2 ⟨_, _, _, rfl, _, hs, rfl, rfl, vb, rfl⟩
                  obtain ⟨lb, hlb⟩ : ∃ z, z = evenL l5 := ⟨_, rfl⟩
                  rw [← hlb] at hs
                  have HLB := Lib.hid (show lb.length ≤ 959 from by rw [hlb]; have := HL5.out; have := evenL_le l5; omega)
                  have HEB := Lib.hid hlb
                  clear hlb
                  have hs := hs.rot23
                  have hlow := bits_or64 HLOW.out.1 HLOW.out.2
                  have hlo := HLOW.out
                  simp only [lowP, whereP, if_true, if_false, Int.reduceEq, Int.reduceNeg, Int.reduceLT] at hlow hlo
                  obtain ⟨hlo1, hlo2⟩ := hlo
                  have HC := Lib.hid (wU8 (I := I) p 60 v lw (128 + (reps.length + srcs.length : Int)) hs (by omega) (by omega))
                  clear hs
                  go_wp2_with fail
                  go_at_call 49
                  refine HC.out.mono ?_
                  clear HC
                  rintro e w2 ⟨_, _, _, rfl, _, hs, rfl, rfl, v, rfl⟩
                  have HC := Lib.hid (wU8 (I := I) p 60 v _ 200 hs (by rw [List.length_append]; show _ + 1 ≤ _; omega) (by decide))
                  clear hs hlow hlo1 hlo2
                  go_wp2_with fail
                  go_at_call 49
                  refine HC.out.mono ?_
                  clear HC
                  rintro e w2 ⟨_, _, _, rfl, _, hs, rfl, rfl, v, rfl⟩
                  obtain ⟨lx, hlx⟩ : ∃ z, z = lw ++ [byteOf (128 + (reps.length + srcs.length : Int))] ++ [byteOf 200] := ⟨_, rfl⟩
                  rw [← hlx] at hs
                  have hlxl : lx.length = lw.length + 2 := by rw [hlx]; simp
                  have HLX := Lib.hid hlx
                  clear hlx
                  have h5 := HLB.out
                  have HC := Lib.hid (wU16 (I := I) p 60 v lx ((lb.length / 4 : Nat) : Int) hs (by omega) ⟨by omega, by omega⟩)
                  obtain ⟨A, c, rfl⟩ := own_form (show World.ownsRow _ 0 5 1 vb lb.length (bvs lb) from hs.at 2 rfl)
                  obtain ⟨hcb, hfb, hlb⟩ := (show Blk _ B 60 #[_] from hs.at 3 rfl).one
                  clear hs
                  go_wp2_with fail
                  go_at_call 52
                  refine HC.out.mono ?_
                  clear HC hcb hfb hlb
                  rintro e w2 ⟨_, _, _, rfl, _, hs, rfl, rfl, v, rfl⟩
                  have hs := hs.rot32
                  obtain ⟨J, hle, hs, hA⟩ := hs.freezeRow
                  have hs := hs.rot22
                  obtain ⟨hcb, hfb, hlb⟩ := (show Blk _ B 60 #[_] from hs.at 2 rfl).one
                  obtain ⟨ly, hly⟩ : ∃ z, z = lx ++ u16B ((lb.length / 4 : Nat) : Int) := ⟨_, rfl⟩
                  rw [← hly] at hs
                  have hlyl : ly.length = lx.length + 2 := by rw [hly, List.length_append, u16B_len]
                  have HLY := Lib.hid hly
                  have HC := Lib.hid (wBytes (I := J) p 60 v ly A c lb hs (by omega) (fun w2 N h => Byts.src (e := 5) (show Byts J A lb from hA) h Try.underlying24 c))
                  have HLE := Lib.hid hle
                  clear hs hly hle hA
                  go_wp2_with fail
                  go_at_call 50
                  refine HC.out.mono ?_
                  rintro e w2 ⟨_, _, _, rfl, _, hs, rfl, rfl, v, rfl⟩
                  have HS := Lib.hid hs.drop23
                  clear hs HC
                  go_wp2
                  go_returns
                  refine Ret.mk (HLE.out) HS.out ⟨rfl, v, ?_⟩
                  have hb : l5 = bodyL (⟨1, sender, media, ntp, rtp, pkts, octs, reps, name, srcs, seqs, base, ref, count, arrs, wants⟩ : Pk) := by
                    rw [HE5.out, HE4.out, HE3.out, HE2.out, HE1.out, HE0.out]
                    simp [bodyL, kindL, flatU32]
                  have hlb2 : lb = evenL (bodyL (⟨1, sender, media, ntp, rtp, pkts, octs, reps, name, srcs, seqs, base, ref, count, arrs, wants⟩ : Pk)) := by rw [HEB.out, hb]
                  have he : lp ++ packB (⟨1, sender, media, ntp, rtp, pkts, octs, reps, name, srcs, seqs, base, ref, count, arrs, wants⟩ : Pk) = ly ++ lb := by
                    unfold packB
                    rw [← hlb2, HLY.out, HLX.out, ← HLW.out]
                    simp [lowP, whereP]
                  rw [he]
end Go.Proofs.Ytddopbbmgpnjjaa
namespace Go.Proofs.Ytddopbbmgpnjjaa
open Go.RowKit
set_option linter.unusedSimpArgs false


set_option maxRecDepth 100000 in
set_option maxHeartbeats 40000000 in
theorem write2 (I : Img) (M : List Res) (w : World) (sender : Int) (media : Int) (ntp : Int) (rtp : Int) (pkts : Int) (octs : Int) (base : Int) (ref : Int) (count : Int) (name : ByteArray) (reps : List Rp) (srcs seqs arrs : List Int) (wants : List Wn) (rA : Option Addr) (rz : Nat) (sA : Option Addr) (sz : Nat) (qA : Option Addr) (qz : Nat) (aA : Option Addr) (az : Nat) (wA : Option Addr) (wz : Nat) (cr : Cells I rA (flat repC reps)) (cs : Cells I sA (flat u32C srcs)) (cq : Cells I qA (flat u16C seqs)) (ca : Cells I aA (flat intC arrs)) (cw : Cells I wA (flat wnC wants)) (p : Nat) (v : Value) (lp : List UInt8) (hok : PkOk (⟨2, sender, media, ntp, rtp, pkts, octs, reps, name, srcs, seqs, base, ref, count, arrs, wants⟩ : Pk)) (hg : Good (⟨2, sender, media, ntp, rtp, pkts, octs, reps, name, srcs, seqs, base, ref, count, arrs, wants⟩ : Pk)) (hl0 : lp.length ≤ 70368744170000) (hst : St I (row 5 1 v lp.length (bvs lp) :: bk p 60 #[v] :: M) w) :
    Calls Try.prog 21 #[.agg #[.int .i64 2, .int .u32 sender, .int .u32 media, .int .u64 ntp, .int .u32 rtp, .int .u32 pkts, .int .u32 octs, .slice rA reps.length rz, .string name, .slice sA srcs.length sz, .slice qA seqs.length qz, .int .u16 base, .int .u32 ref, .int .u8 count, .slice aA arrs.length az, .slice wA wants.length wz], .pointer (some ⟨p, 0, none⟩)] w (Ret I (fun v' _ M' => Wrote M p 60 (lp ++ packB (⟨2, sender, media, ntp, rtp, pkts, octs, reps, name, srcs, seqs, base, ref, count, arrs, wants⟩ : Pk)) v' M')) := by
  have hs1 := hst.alloc 51 #[.int .i64 2, .int .u32 sender, .int .u32 media, .int .u64 ntp, .int .u32 rtp, .int .u32 pkts, .int .u32 octs, .slice rA reps.length rz, .string name, .slice sA srcs.length sz, .slice qA seqs.length qz, .int .u16 base, .int .u32 ref, .int .u8 count, .slice aA arrs.length az, .slice wA wants.length wz]
  have HOK := Lib.hid hok
  obtain ⟨n1, n2, n3, n4, n5, n6⟩ := good_lens hg
  have HLOW := Lib.hid (lowP_ok hg)
  simp only [] at n1 n2 n3 n4 n5 n6
  have HCR := Lib.hid cr
  have HCS := Lib.hid cs
  have HCW := Lib.hid cw
  have HCQ := Lib.hid cq
  have HCA := Lib.hid ca
  clear cr cs cq ca cw

  have HW := Lib.hid (whereC 2 (w.alloc (.cells #[.int .i64 2, .int .u32 sender, .int .u32 media, .int .u64 ntp, .int .u32 rtp, .int .u32 pkts, .int .u32 octs, .slice rA reps.length rz, .string name, .slice sA srcs.length sz, .slice qA seqs.length qz, .int .u16 base, .int .u32 ref, .int .u8 count, .slice aA arrs.length az, .slice wA wants.length wz] 51)))
  obtain ⟨q1, hq1⟩ : ∃ q, q = w.heap.size := ⟨_, rfl⟩
  rw [← hq1] at hs1
  clear hst hok hg
  go_enter Try.func21, Try.ntmps21
  go_upto_region 1 with fail
  rw [← hq1]
  clear hq1
  generalize World.alloc w _ = W at hs1 HW ⊢
  obtain ⟨hc1, hf1, hl1⟩ := Blk.all (hs1.at 0 rfl)
  have HS0 := Lib.hid hs1
  clear hs1
  go_wp2_with fail
  go_at_call 47
  refine HW.out.mono ?_
  rintro e w2 ⟨rfl, hw⟩
  subst hw
  simp only [whereP, if_true, if_false, Int.reduceEq, Int.reduceNeg]
  clear HW
  go_upto_region 5 with fail
  have hs : St I (row 5 1 (.slice none 0 0) ([] : List UInt8).length (bvs []) :: bk W.heap.size 60 #[.slice none 0 0] :: bk q1 51 #[.int .i64 2, .int .u32 sender, .int .u32 media, .int .u64 ntp, .int .u32 rtp, .int .u32 pkts, .int .u32 octs, .slice rA reps.length rz, .string name, .slice sA srcs.length sz, .slice qA seqs.length qz, .int .u16 base, .int .u32 ref, .int .u8 count, .slice aA arrs.length az, .slice wA wants.length wz] :: row 5 1 v lp.length (bvs lp) :: bk p 60 #[v] :: M) (W.alloc (.cells #[.slice none 0 0] 60)) := (HS0.out.alloc 60 #[.slice none 0 0]).nil
  obtain ⟨B, hB⟩ : ∃ B, B = W.heap.size := ⟨_, rfl⟩
  rw [← hB] at hs ⊢
  generalize World.alloc W _ = W2 at hs ⊢
  clear hB hc1 hf1 hl1 HS0
  obtain ⟨cs1, hcs1⟩ : ∃ z : Array Value, z = #[.int .i64 2, .int .u32 sender, .int .u32 media, .int .u64 ntp, .int .u32 rtp, .int .u32 pkts, .int .u32 octs, .slice rA reps.length rz, .string name, .slice sA srcs.length sz, .slice qA seqs.length qz, .int .u16 base, .int .u32 ref, .int .u8 count, .slice aA arrs.length az, .slice wA wants.length wz] := ⟨_, rfl⟩
  rw [← hcs1] at hs
  have HC1 := Lib.hid hcs1
  clear hcs1
  obtain ⟨vb, hvb⟩ : ∃ vb : Value, vb = .slice none 0 0 := ⟨_, rfl⟩
  rw [← hvb] at hs
  clear hvb
  obtain ⟨lw, hlw⟩ : ∃ lw, lw = lp := ⟨_, rfl⟩
  rw [← hlw] at hs hl0
  have HLW := Lib.hid hlw
  clear hlw
  obtain ⟨l0, e0⟩ : ∃ z : List UInt8, z = [] := ⟨_, rfl⟩
  rw [← e0] at hs
  have HL0 := Lib.hid (show l0.length ≤ 0 from by rw [e0]; exact Nat.le_refl _)
  have HE0 := Lib.hid e0
  have HS := Lib.hid hs
  clear hs e0
  obtain ⟨hc1, hf1, hl1⟩ := Blk.all (HS.out.at 2 rfl)
  rw [HC1.out] at hc1
  obtain ⟨hcb, hfb, hlb⟩ := (show Blk _ B 60 #[_] from HS.out.at 1 rfl).one
  have HC := Lib.hid (wU32 (I := I) B 60 vb l0 sender HS.out (by have := HL0.out; omega) HOK.out.sender)
  go_wp2_with fail
  go_at_call 48
  refine HC.out.mono ?_
  clear hc1 hf1 hl1 hcb hfb hlb
  clear HS HC vb
  rintro e w2 ⟨_, _, _, rfl, _, hs, rfl, rfl, vb, rfl⟩
  obtain ⟨l1, e1⟩ : ∃ z, z = l0 ++ u32B sender := ⟨_, rfl⟩
  rw [← e1] at hs
  have HL1 := Lib.hid (show l1.length ≤ 4 from by rw [e1, List.length_append]; have := HL0.out; have : (u32B sender).length = 4 := (by first | rfl | simp); omega)
  have HE1 := Lib.hid e1
  clear e1
  have HS := Lib.hid hs
  clear hs
  obtain ⟨hc1, hf1, hl1⟩ := Blk.all (HS.out.at 2 rfl)
  rw [HC1.out] at hc1
  obtain ⟨hcb, hfb, hlb⟩ := (show Blk _ B 60 #[_] from HS.out.at 1 rfl).one
  go_upto_region 47 with fail
  go_upto_region 48 with fail
  clear hc1 hf1 hl1 hcb hfb hlb
  go_loopw [160] (fun iv wr => ∃ i : Nat, i ≤ reps.length ∧ iv = .int .i64 i ∧ Hid (∃ vb, St I (row 5 1 vb (l1 ++ (reps.take i).flatMap repL).length (bvs (l1 ++ (reps.take i).flatMap repL)) :: bk B 60 #[vb] :: bk q1 51 cs1 :: row 5 1 v lw.length (bvs lw) :: bk p 60 #[v] :: M) wr)) (fun iv _ => reps.length - (intOf iv).toNat)
  case atStart => exact ⟨0, by omega, rfl, vb, by simpa using HS.out⟩
  case round =>
    obtain ⟨i, hi, rfl, hh⟩ := hrel
    obtain ⟨vb, hs⟩ := hh.out
    have HS := Lib.hid hs
    clear hh hs
    by_cases hlt : i < reps.length
    · skip
      have hsn := fm_snoc repL reps i hlt
      obtain ⟨g, o, rfl, hcell⟩ := flat_get (s := 7) (fun _ => rfl) HCR.out (by omega) (by decide)
      have hm := HOK.out.reps _ (List.getElem_mem hlt)
      replace hcell : ∀ j, j < 7 → wr.cell? ⟨g, o + i * 7 + j, none⟩ = (repC reps[i])[j]? := fun j hj => hcell _ _ HS.out i hlt j hj
      obtain ⟨x, hxe⟩ : ∃ x, x = reps[i] := ⟨_, rfl⟩
      rw [← hxe] at hcell hm hsn
      have z0 : wr.cell? ⟨g, o + i * 7, none⟩ = some (.int .u32 x.src) := hcell 0 (by decide)
      have z1 : wr.cell? ⟨g, o + i * 7 + 1, none⟩ = some (.int .u8 x.lost) := hcell 1 (by decide)
      have z2 : wr.cell? ⟨g, o + i * 7 + 2, none⟩ = some (.int .u32 x.total) := hcell 2 (by decide)
      have z3 : wr.cell? ⟨g, o + i * 7 + 3, none⟩ = some (.int .u32 x.high) := hcell 3 (by decide)
      have z4 : wr.cell? ⟨g, o + i * 7 + 4, none⟩ = some (.int .u32 x.jit) := hcell 4 (by decide)
      have z5 : wr.cell? ⟨g, o + i * 7 + 5, none⟩ = some (.int .u32 x.last) := hcell 5 (by decide)
      have z6 : wr.cell? ⟨g, o + i * 7 + 6, none⟩ = some (.int .u32 x.delay) := hcell 6 (by decide)
      obtain ⟨lb, e1⟩ : ∃ z, z = l1 ++ (reps.take i).flatMap repL := ⟨_, rfl⟩
      have HL := Lib.hid (show lb.length ≤ 748 from by rw [e1, List.length_append]; have := HL1.out; have := fm_le (f := repL) (s := 24) (n := 31) (fun x => by first | rfl | exact repL_len x) reps i (by omega); omega)
      have hs := HS.out
      rw [← e1] at hs
      have HSN := Lib.hid (And.intro e1 hsn)
      clear HS hcell hsn hxe e1
      have HS := Lib.hid hs
      clear hs
      have hs := HS.out.grow (.cells #[.int .u32 x.src, .int .u8 x.lost, .int .u32 x.total, .int .u32 x.high, .int .u32 x.jit, .int .u32 x.last, .int .u32 x.delay] 65)
      have HC := Lib.hid (repW I (bk q1 51 cs1 :: row 5 1 v lw.length (bvs lw) :: bk p 60 #[v] :: M) _ B 60 vb lb x hm hs (by have := HL.out; omega))
      clear hs HS hm
      go_wp2_with fail
      go_at_call 54
      refine HC.out.mono ?_
      rintro e w2 ⟨_, _, _, rfl, _, hs, rfl, rfl, vb, rfl⟩
      rw [HSN.out.1, List.append_assoc, ← HSN.out.2] at hs
      have HS := Lib.hid hs
      clear hs HC HSN
      go_wp2
      go_roundw
      case rel => exact ⟨i + 1, by omega, by go_num, vb, HS.out⟩
      case measure => simp [intOf]; omega
    · skip
      have hin : i = reps.length := by omega
      have hs := HS.out
      rw [hin, List.take_length] at hs
      subst hin
      clear HS
      obtain ⟨l2, e2⟩ : ∃ z, z = l1 ++ reps.flatMap repL := ⟨_, rfl⟩
      rw [← e2] at hs
      have HL2 := Lib.hid (show l2.length ≤ 748 from by rw [e2, List.length_append]; have := HL1.out; have := fm_len (f := repL) (s := 24) (fun x => by first | rfl | exact repL_len x) reps; omega)
      have HE2 := Lib.hid e2
      clear e2
      have HS := Lib.hid hs
      clear hs
      obtain ⟨hc1, hf1, hl1⟩ := Blk.all (HS.out.at 2 rfl)
      rw [HC1.out] at hc1
      obtain ⟨hcb, hfb, hlb⟩ := (show Blk _ B 60 #[_] from HS.out.at 1 rfl).one
      go_upto_region 53 with fail
      clear hc1 hf1 hl1 hcb hfb hlb
      go_loopw [170] (fun iv wr => ∃ i : Nat, i ≤ srcs.length ∧ iv = .int .i64 i ∧ Hid (∃ vb, St I (row 5 1 vb (l2 ++ (srcs.take i).flatMap u32B).length (bvs (l2 ++ (srcs.take i).flatMap u32B)) :: bk B 60 #[vb] :: bk q1 51 cs1 :: row 5 1 v lw.length (bvs lw) :: bk p 60 #[v] :: M) wr)) (fun iv _ => srcs.length - (intOf iv).toNat)
      case atStart => exact ⟨0, by omega, rfl, vb, by simpa using HS.out⟩
      case round =>
        obtain ⟨i, hi, rfl, hh⟩ := hrel
        obtain ⟨vb, hs⟩ := hh.out
        have HS := Lib.hid hs
        clear hh hs
        by_cases hlt : i < srcs.length
        · skip
          have hsn := fm_snoc u32B srcs i hlt
          obtain ⟨g, o, rfl, hcell⟩ := flat_get (s := 1) (fun _ => rfl) HCS.out (by omega) (by decide)
          have hm := HOK.out.srcs _ (List.getElem_mem hlt)
          replace hcell : ∀ j, j < 1 → wr.cell? ⟨g, o + i * 1 + j, none⟩ = (u32C srcs[i])[j]? := fun j hj => hcell _ _ HS.out i hlt j hj
          obtain ⟨x, hxe⟩ : ∃ x, x = srcs[i] := ⟨_, rfl⟩
          rw [← hxe] at hcell hm hsn
          have z0 : wr.cell? ⟨g, o + i, none⟩ = some (.int .u32 x) := by have := hcell 0 (by decide); simpa using this
          obtain ⟨lb, e1⟩ : ∃ z, z = l2 ++ (srcs.take i).flatMap u32B := ⟨_, rfl⟩
          have HL := Lib.hid (show lb.length ≤ 872 from by rw [e1, List.length_append]; have := HL2.out; have := fm_le (f := u32B) (s := 4) (n := 31) (fun x => by first | rfl | exact repL_len x) srcs i (by omega); omega)
          have hs := HS.out
          rw [← e1] at hs
          have HSN := Lib.hid (And.intro e1 hsn)
          clear HS hcell hsn hxe e1
          have HS := Lib.hid hs
          clear hs
          have HC := Lib.hid (wU32 (I := I) B 60 vb lb x HS.out (by have := HL.out; omega) hm)
          clear HS hm
          go_wp2_with fail
          go_at_call 48
          refine HC.out.mono ?_
          rintro e w2 ⟨_, _, _, rfl, _, hs, rfl, rfl, vb, rfl⟩
          rw [HSN.out.1, List.append_assoc, ← HSN.out.2] at hs
          have HS := Lib.hid hs
          clear hs HC HSN
          go_wp2
          go_roundw
          case rel => exact ⟨i + 1, by omega, by go_num, vb, HS.out⟩
          case measure => simp [intOf]; omega
        · skip
          have hin : i = srcs.length := by omega
          have hs := HS.out
          rw [hin, List.take_length] at hs
          subst hin
          clear HS
          obtain ⟨l3, e3⟩ : ∃ z, z = l2 ++ srcs.flatMap u32B := ⟨_, rfl⟩
          rw [← e3] at hs
          have HL3 := Lib.hid (show l3.length ≤ 872 from by rw [e3, List.length_append]; have := HL2.out; have := fm_len (f := u32B) (s := 4) (fun x => by first | rfl | exact repL_len x) srcs; omega)
          have HE3 := Lib.hid e3
          clear e3
          have HS := Lib.hid hs
          clear hs
          obtain ⟨hc1, hf1, hl1⟩ := Blk.all (HS.out.at 2 rfl)
          rw [HC1.out] at hc1
          obtain ⟨hcb, hfb, hlb⟩ := (show Blk _ B 60 #[_] from HS.out.at 1 rfl).one
          go_upto_region 58 with fail
          clear hc1 hf1 hl1 hcb hfb hlb
          go_loopw [180] (fun iv wr => ∃ i : Nat, i ≤ wants.length ∧ iv = .int .i64 i ∧ Hid (∃ vb, St I (row 5 1 vb (l3 ++ (wants.take i).flatMap wnL).length (bvs (l3 ++ (wants.take i).flatMap wnL)) :: bk B 60 #[vb] :: bk q1 51 cs1 :: row 5 1 v lw.length (bvs lw) :: bk p 60 #[v] :: M) wr)) (fun iv _ => wants.length - (intOf iv).toNat)
          case atStart => exact ⟨0, by omega, rfl, vb, by simpa using HS.out⟩
          case round =>
            obtain ⟨i, hi, rfl, hh⟩ := hrel
            obtain ⟨vb, hs⟩ := hh.out
            have HS := Lib.hid hs
            clear hh hs
            by_cases hlt : i < wants.length
            · skip
              have hsn := fm_snoc wnL wants i hlt
              obtain ⟨g, o, rfl, hcell⟩ := flat_get (s := 2) (fun _ => rfl) HCW.out (by omega) (by decide)
              have hm := HOK.out.wants _ (List.getElem_mem hlt)
              replace hcell : ∀ j, j < 2 → wr.cell? ⟨g, o + i * 2 + j, none⟩ = (wnC wants[i])[j]? := fun j hj => hcell _ _ HS.out i hlt j hj
              obtain ⟨x, hxe⟩ : ∃ x, x = wants[i] := ⟨_, rfl⟩
              rw [← hxe] at hcell hm hsn
              have z0 : wr.cell? ⟨g, o + i * 2, none⟩ = some (.int .u32 x.src) := hcell 0 (by decide)
              have z1 : wr.cell? ⟨g, o + i * 2 + 1, none⟩ = some (.int .u8 x.seq) := hcell 1 (by decide)
              obtain ⟨lb, e1⟩ : ∃ z, z = l3 ++ (wants.take i).flatMap wnL := ⟨_, rfl⟩
              have HL := Lib.hid (show lb.length ≤ 936 from by rw [e1, List.length_append]; have := HL3.out; have := fm_le (f := wnL) (s := 8) (n := 8) (fun x => by first | rfl | exact repL_len x) wants i (by omega); omega)
              have hs := HS.out
              rw [← e1] at hs
              have HSN := Lib.hid (And.intro e1 hsn)
              clear HS hcell hsn hxe e1
              have HS := Lib.hid hs
              clear hs
              have hs := (HS.out.alloc 68 #[.int .u32 x.src, .int .u8 x.seq]).swap2.swap1
              obtain ⟨qw, hqw⟩ : ∃ q, q = wr.heap.size := ⟨_, rfl⟩
              rw [← hqw] at hs
              have HQW := Lib.hid hqw
              clear hqw
              have HC := Lib.hid (wU32 (I := I) (M := bk qw 68 #[.int .u32 x.src, .int .u8 x.seq] :: bk q1 51 cs1 :: row 5 1 v lw.length (bvs lw) :: bk p 60 #[v] :: M) B 60 vb lb x.src hs (by have := HL.out; omega) hm.1)
              have HM := Lib.hid hm
              have hx2 := hm.2
              obtain ⟨hx3, hx4⟩ := hx2
              have hsq := hs
              clear hs HS hm
              go_upto_region 60 with fail
              rw [← HQW.out]
              obtain ⟨hx5, hx6, hx7, hx8, hx9⟩ := (show Blk _ qw 68 #[.int .u32 x.src, .int .u8 x.seq] from hsq.at 2 rfl).two
              go_wp2_with fail
              go_at_call 48
              refine HC.out.mono ?_
              rintro e w2 ⟨_, _, _, rfl, _, hs, rfl, rfl, vb, rfl⟩
              clear hx5 hx6 hx7 hx8 hx9 hsq
              obtain ⟨hx5, hx6, hx7, hx8, hx9⟩ := (show Blk _ qw 68 #[.int .u32 x.src, .int .u8 x.seq] from hs.at 2 rfl).two
              obtain ⟨lc, hlc⟩ : ∃ z, z = lb ++ u32B x.src := ⟨_, rfl⟩
              rw [← hlc] at hs
              have HC2 := Lib.hid (wU32 (I := I) B 60 vb lc (x.seq * 16777216) hs (by rw [hlc, List.length_append, u32B_len]; have := HL.out; omega) ⟨by omega, by omega⟩)
              have HLC := Lib.hid hlc
              clear hs hlc HC
              go_wp2_with fail
              go_at_call 48
              refine HC2.out.mono ?_
              rintro e w3 ⟨_, _, _, rfl, _, hs, rfl, rfl, vb, rfl⟩
              rw [HLC.out, List.append_assoc lb] at hs
              have HC := HC2
              clear HC2 HLC
              replace hs : St I (row 5 1 vb (lb ++ wnL x).length (bvs (lb ++ wnL x)) :: bk B 60 #[vb] :: bk q1 51 cs1 :: row 5 1 v lw.length (bvs lw) :: bk p 60 #[v] :: M) w3 := hs.swap1.swap2.drop
              clear hx5 hx6 hx7 hx8 hx9
              rw [HSN.out.1, List.append_assoc, ← HSN.out.2] at hs
              have HS := Lib.hid hs
              clear hs HC HSN
              go_wp2
              go_roundw
              case rel => exact ⟨i + 1, by omega, by go_num, vb, HS.out⟩
              case measure => simp [intOf]; omega
            · skip
              have hin : i = wants.length := by omega
              have hs := HS.out
              rw [hin, List.take_length] at hs
              subst hin
              clear HS
              obtain ⟨l4, e4⟩ : ∃ z, z = l3 ++ wants.flatMap wnL := ⟨_, rfl⟩
              rw [← e4] at hs
              have HL4 := Lib.hid (show l4.length ≤ 936 from by rw [e4, List.length_append]; have := HL3.out; have := fm_len (f := wnL) (s := 8) (fun x => by first | rfl | exact repL_len x) wants; omega)
              have HE4 := Lib.hid e4
              clear e4
              have HS := Lib.hid hs
              clear hs
              obtain ⟨hc1, hf1, hl1⟩ := Blk.all (HS.out.at 2 rfl)
              rw [HC1.out] at hc1
              obtain ⟨hcb, hfb, hlb⟩ := (show Blk _ B 60 #[_] from HS.out.at 1 rfl).one
              have HC := Lib.hid (evenC I _ _ B 60 vb l4 HS.out (by have := HL4.out; omega))
              go_wp2_with fail
              go_at_call 55
              refine HC.out.mono ?_
              clear hc1 hf1 hl1 hcb hfb hlb
              clear HS HC vb
              rintro e w2 ⟨_, _, _, rfl, _, hs, rfl, rfl, vb, rfl⟩
              obtain ⟨lb, hlb⟩ : ∃ z, z = evenL l4 := ⟨_, rfl⟩
              rw [← hlb] at hs
              have HLB := Lib.hid (show lb.length ≤ 939 from by rw [hlb]; have := HL4.out; have := evenL_le l4; omega)
              have HEB := Lib.hid hlb
              clear hlb
              have hs := hs.rot23
              have hlow := bits_or64 HLOW.out.1 HLOW.out.2
              have hlo := HLOW.out
              simp only [lowP, whereP, if_true, if_false, Int.reduceEq, Int.reduceNeg, Int.reduceLT] at hlow hlo
              obtain ⟨hlo1, hlo2⟩ := hlo
              have HC := Lib.hid (wU8 (I := I) p 60 v lw (128 + (reps.length + srcs.length : Int)) hs (by omega) (by omega))
              clear hs
              go_wp2_with fail
              go_at_call 49
              refine HC.out.mono ?_
              clear HC
              rintro e w2 ⟨_, _, _, rfl, _, hs, rfl, rfl, v, rfl⟩
              have HC := Lib.hid (wU8 (I := I) p 60 v _ 201 hs (by rw [List.length_append]; show _ + 1 ≤ _; omega) (by decide))
              clear hs hlow hlo1 hlo2
              go_wp2_with fail
              go_at_call 49
              refine HC.out.mono ?_
              clear HC
              rintro e w2 ⟨_, _, _, rfl, _, hs, rfl, rfl, v, rfl⟩
              obtain ⟨lx, hlx⟩ : ∃ z, z = lw ++ [byteOf (128 + (reps.length + srcs.length : Int))] ++ [byteOf 201] := ⟨_, rfl⟩
              rw [← hlx] at hs
              have hlxl : lx.length = lw.length + 2 := by rw [hlx]; simp
              have HLX := Lib.hid hlx
              clear hlx
              have h5 := HLB.out
              have HC := Lib.hid (wU16 (I := I) p 60 v lx ((lb.length / 4 : Nat) : Int) hs (by omega) ⟨by omega, by omega⟩)
              obtain ⟨A, c, rfl⟩ := own_form (show World.ownsRow _ 0 5 1 vb lb.length (bvs lb) from hs.at 2 rfl)
              obtain ⟨hcb, hfb, hlb⟩ := (show Blk _ B 60 #[_] from hs.at 3 rfl).one
              clear hs
              go_wp2_with fail
              go_at_call 52
              refine HC.out.mono ?_
              clear HC hcb hfb hlb
              rintro e w2 ⟨_, _, _, rfl, _, hs, rfl, rfl, v, rfl⟩
              have hs := hs.rot32
              obtain ⟨J, hle, hs, hA⟩ := hs.freezeRow
              have hs := hs.rot22
              obtain ⟨hcb, hfb, hlb⟩ := (show Blk _ B 60 #[_] from hs.at 2 rfl).one
              obtain ⟨ly, hly⟩ : ∃ z, z = lx ++ u16B ((lb.length / 4 : Nat) : Int) := ⟨_, rfl⟩
              rw [← hly] at hs
              have hlyl : ly.length = lx.length + 2 := by rw [hly, List.length_append, u16B_len]
              have HLY := Lib.hid hly
              have HC := Lib.hid (wBytes (I := J) p 60 v ly A c lb hs (by omega) (fun w2 N h => Byts.src (e := 5) (show Byts J A lb from hA) h Try.underlying24 c))
              have HLE := Lib.hid hle
              clear hs hly hle hA
              go_wp2_with fail
              go_at_call 50
              refine HC.out.mono ?_
              rintro e w2 ⟨_, _, _, rfl, _, hs, rfl, rfl, v, rfl⟩
              have HS := Lib.hid hs.drop23
              clear hs HC
              go_wp2
              go_returns
              refine Ret.mk (HLE.out) HS.out ⟨rfl, v, ?_⟩
              have hb : l4 = bodyL (⟨2, sender, media, ntp, rtp, pkts, octs, reps, name, srcs, seqs, base, ref, count, arrs, wants⟩ : Pk) := by
                rw [HE4.out, HE3.out, HE2.out, HE1.out, HE0.out]
                simp [bodyL, kindL, flatU32]
              have hlb2 : lb = evenL (bodyL (⟨2, sender, media, ntp, rtp, pkts, octs, reps, name, srcs, seqs, base, ref, count, arrs, wants⟩ : Pk)) := by rw [HEB.out, hb]
              have he : lp ++ packB (⟨2, sender, media, ntp, rtp, pkts, octs, reps, name, srcs, seqs, base, ref, count, arrs, wants⟩ : Pk) = ly ++ lb := by
                unfold packB
                rw [← hlb2, HLY.out, HLX.out, ← HLW.out]
                simp [lowP, whereP]
              rw [he]
end Go.Proofs.Ytddopbbmgpnjjaa
namespace Go.Proofs.Ytddopbbmgpnjjaa
open Go.RowKit
set_option linter.unusedSimpArgs false


set_option maxRecDepth 100000 in
set_option maxHeartbeats 40000000 in
theorem write3 (I : Img) (M : List Res) (w : World) (sender : Int) (media : Int) (ntp : Int) (rtp : Int) (pkts : Int) (octs : Int) (base : Int) (ref : Int) (count : Int) (name : ByteArray) (reps : List Rp) (srcs seqs arrs : List Int) (wants : List Wn) (rA : Option Addr) (rz : Nat) (sA : Option Addr) (sz : Nat) (qA : Option Addr) (qz : Nat) (aA : Option Addr) (az : Nat) (wA : Option Addr) (wz : Nat) (cr : Cells I rA (flat repC reps)) (cs : Cells I sA (flat u32C srcs)) (cq : Cells I qA (flat u16C seqs)) (ca : Cells I aA (flat intC arrs)) (cw : Cells I wA (flat wnC wants)) (p : Nat) (v : Value) (lp : List UInt8) (hok : PkOk (⟨3, sender, media, ntp, rtp, pkts, octs, reps, name, srcs, seqs, base, ref, count, arrs, wants⟩ : Pk)) (hg : Good (⟨3, sender, media, ntp, rtp, pkts, octs, reps, name, srcs, seqs, base, ref, count, arrs, wants⟩ : Pk)) (hl0 : lp.length ≤ 70368744170000) (hst : St I (row 5 1 v lp.length (bvs lp) :: bk p 60 #[v] :: M) w) :
    Calls Try.prog 21 #[.agg #[.int .i64 3, .int .u32 sender, .int .u32 media, .int .u64 ntp, .int .u32 rtp, .int .u32 pkts, .int .u32 octs, .slice rA reps.length rz, .string name, .slice sA srcs.length sz, .slice qA seqs.length qz, .int .u16 base, .int .u32 ref, .int .u8 count, .slice aA arrs.length az, .slice wA wants.length wz], .pointer (some ⟨p, 0, none⟩)] w (Ret I (fun v' _ M' => Wrote M p 60 (lp ++ packB (⟨3, sender, media, ntp, rtp, pkts, octs, reps, name, srcs, seqs, base, ref, count, arrs, wants⟩ : Pk)) v' M')) := by
  have hs1 := hst.alloc 51 #[.int .i64 3, .int .u32 sender, .int .u32 media, .int .u64 ntp, .int .u32 rtp, .int .u32 pkts, .int .u32 octs, .slice rA reps.length rz, .string name, .slice sA srcs.length sz, .slice qA seqs.length qz, .int .u16 base, .int .u32 ref, .int .u8 count, .slice aA arrs.length az, .slice wA wants.length wz]
  have HOK := Lib.hid hok
  obtain ⟨n1, n2, n3, n4, n5, n6⟩ := good_lens hg
  have HLOW := Lib.hid (lowP_ok hg)
  simp only [] at n1 n2 n3 n4 n5 n6
  have HCR := Lib.hid cr
  have HCS := Lib.hid cs
  have HCW := Lib.hid cw
  have HCQ := Lib.hid cq
  have HCA := Lib.hid ca
  clear cr cs cq ca cw

  have HW := Lib.hid (whereC 3 (w.alloc (.cells #[.int .i64 3, .int .u32 sender, .int .u32 media, .int .u64 ntp, .int .u32 rtp, .int .u32 pkts, .int .u32 octs, .slice rA reps.length rz, .string name, .slice sA srcs.length sz, .slice qA seqs.length qz, .int .u16 base, .int .u32 ref, .int .u8 count, .slice aA arrs.length az, .slice wA wants.length wz] 51)))
  obtain ⟨q1, hq1⟩ : ∃ q, q = w.heap.size := ⟨_, rfl⟩
  rw [← hq1] at hs1
  clear hst hok hg
  go_enter Try.func21, Try.ntmps21
  go_upto_region 1 with fail
  rw [← hq1]
  clear hq1
  generalize World.alloc w _ = W at hs1 HW ⊢
  obtain ⟨hc1, hf1, hl1⟩ := Blk.all (hs1.at 0 rfl)
  have HS0 := Lib.hid hs1
  clear hs1
  go_wp2_with fail
  go_at_call 47
  refine HW.out.mono ?_
  rintro e w2 ⟨rfl, hw⟩
  subst hw
  simp only [whereP, if_true, if_false, Int.reduceEq, Int.reduceNeg]
  clear HW
  go_upto_region 5 with fail
  have hs : St I (row 5 1 (.slice none 0 0) ([] : List UInt8).length (bvs []) :: bk W.heap.size 60 #[.slice none 0 0] :: bk q1 51 #[.int .i64 3, .int .u32 sender, .int .u32 media, .int .u64 ntp, .int .u32 rtp, .int .u32 pkts, .int .u32 octs, .slice rA reps.length rz, .string name, .slice sA srcs.length sz, .slice qA seqs.length qz, .int .u16 base, .int .u32 ref, .int .u8 count, .slice aA arrs.length az, .slice wA wants.length wz] :: row 5 1 v lp.length (bvs lp) :: bk p 60 #[v] :: M) (W.alloc (.cells #[.slice none 0 0] 60)) := (HS0.out.alloc 60 #[.slice none 0 0]).nil
  obtain ⟨B, hB⟩ : ∃ B, B = W.heap.size := ⟨_, rfl⟩
  rw [← hB] at hs ⊢
  generalize World.alloc W _ = W2 at hs ⊢
  clear hB hc1 hf1 hl1 HS0
  obtain ⟨cs1, hcs1⟩ : ∃ z : Array Value, z = #[.int .i64 3, .int .u32 sender, .int .u32 media, .int .u64 ntp, .int .u32 rtp, .int .u32 pkts, .int .u32 octs, .slice rA reps.length rz, .string name, .slice sA srcs.length sz, .slice qA seqs.length qz, .int .u16 base, .int .u32 ref, .int .u8 count, .slice aA arrs.length az, .slice wA wants.length wz] := ⟨_, rfl⟩
  rw [← hcs1] at hs
  have HC1 := Lib.hid hcs1
  clear hcs1
  obtain ⟨vb, hvb⟩ : ∃ vb : Value, vb = .slice none 0 0 := ⟨_, rfl⟩
  rw [← hvb] at hs
  clear hvb
  obtain ⟨lw, hlw⟩ : ∃ lw, lw = lp := ⟨_, rfl⟩
  rw [← hlw] at hs hl0
  have HLW := Lib.hid hlw
  clear hlw
  obtain ⟨l0, e0⟩ : ∃ z : List UInt8, z = [] := ⟨_, rfl⟩
  rw [← e0] at hs
  have HL0 := Lib.hid (show l0.length ≤ 0 from by rw [e0]; exact Nat.le_refl _)
  have HE0 := Lib.hid e0
  have HS := Lib.hid hs
  clear hs e0
  obtain ⟨hc1, hf1, hl1⟩ := Blk.all (HS.out.at 2 rfl)
  rw [HC1.out] at hc1
  obtain ⟨hcb, hfb, hlb⟩ := (show Blk _ B 60 #[_] from HS.out.at 1 rfl).one
  have HC := Lib.hid (wU32 (I := I) B 60 vb l0 sender HS.out (by have := HL0.out; omega) HOK.out.sender)
  go_wp2_with fail
  go_at_call 48
  refine HC.out.mono ?_
  clear hc1 hf1 hl1 hcb hfb hlb
  clear HS HC vb
  rintro e w2 ⟨_, _, _, rfl, _, hs, rfl, rfl, vb, rfl⟩
  obtain ⟨l1, e1⟩ : ∃ z, z = l0 ++ u32B sender := ⟨_, rfl⟩
  rw [← e1] at hs
  have HL1 := Lib.hid (show l1.length ≤ 4 from by rw [e1, List.length_append]; have := HL0.out; have : (u32B sender).length = 4 := (by first | rfl | simp); omega)
  have HE1 := Lib.hid e1
  clear e1
  have HS := Lib.hid hs
  clear hs
  obtain ⟨hc1, hf1, hl1⟩ := Blk.all (HS.out.at 2 rfl)
  rw [HC1.out] at hc1
  obtain ⟨hcb, hfb, hlb⟩ := (show Blk _ B 60 #[_] from HS.out.at 1 rfl).one
  have HC := Lib.hid (wU8 (I := I) B 60 vb l1 1 HS.out (by have := HL1.out; omega) (by decide))
  go_wp2_with fail
  go_at_call 49
  refine HC.out.mono ?_
  clear hc1 hf1 hl1 hcb hfb hlb
  clear HS HC vb
  rintro e w2 ⟨_, _, _, rfl, _, hs, rfl, rfl, vb, rfl⟩
  obtain ⟨l2, e2⟩ : ∃ z, z = l1 ++ [byteOf 1] := ⟨_, rfl⟩
  rw [← e2] at hs
  have HL2 := Lib.hid (show l2.length ≤ 5 from by rw [e2, List.length_append]; have := HL1.out; have : ([byteOf 1]).length = 1 := (by first | rfl | simp); omega)
  have HE2 := Lib.hid e2
  clear e2
  have HS := Lib.hid hs
  clear hs
  obtain ⟨hc1, hf1, hl1⟩ := Blk.all (HS.out.at 2 rfl)
  rw [HC1.out] at hc1
  obtain ⟨hcb, hfb, hlb⟩ := (show Blk _ B 60 #[_] from HS.out.at 1 rfl).one
  have hnm : (name.size : Int) < 256 := by omega
  have HC := Lib.hid (wU8 (I := I) B 60 vb l2 name.size HS.out (by have := HL2.out; omega) ⟨by omega, by omega⟩)
  go_wp2_with fail
  go_at_call 49
  refine HC.out.mono ?_
  clear hc1 hf1 hl1 hcb hfb hlb
  clear HS HC vb
  rintro e w2 ⟨_, _, _, rfl, _, hs, rfl, rfl, vb, rfl⟩
  obtain ⟨l3, e3⟩ : ∃ z, z = l2 ++ [byteOf name.size] := ⟨_, rfl⟩
  rw [← e3] at hs
  have HL3 := Lib.hid (show l3.length ≤ 6 from by rw [e3, List.length_append]; have := HL2.out; have : ([byteOf name.size]).length = 1 := (by first | rfl | simp); omega)
  have HE3 := Lib.hid e3
  clear e3
  have HS := Lib.hid hs
  clear hs
  obtain ⟨hc1, hf1, hl1⟩ := Blk.all (HS.out.at 2 rfl)
  rw [HC1.out] at hc1
  obtain ⟨hcb, hfb, hlb⟩ := (show Blk _ B 60 #[_] from HS.out.at 1 rfl).one
  clear hnm
  have hconv := run_bytes_of_string (P := Try.prog) w2 9 24 5 name Try.underlying9 Try.underlying24 Try.underlying5
  obtain ⟨J0, hle0, hs, hb⟩ := HS.out.bytesOf name (grownCap w2 name.size 0 5) ((bytesRow name (grownCap w2 name.size 0 5)).size, (bytesRow name (grownCap w2 name.size 0 5)).size + 1)
  generalize World.alloc w2.drew _ = w1 at hconv hs
  obtain ⟨cp, hcp⟩ : ∃ c, c = grownCap w2 name.size 0 5 := ⟨_, rfl⟩
  rw [← hcp] at hconv
  clear hcp
  have HC : Hid (Calls Try.prog 50 #[.pointer (some ⟨B, 0, none⟩), .slice (some ⟨w2.heap.size, 0, none⟩) name.size cp] w1 (Ret J0 (fun v' J M' => J0 = J ∧ Wrote (bk q1 51 cs1 :: row 5 1 v lw.length (bvs lw) :: bk p 60 #[v] :: M) B 60 (l3 ++ ls name) v' M'))) := by
    have := wBytes (I := J0) (M := bk q1 51 cs1 :: row 5 1 v lw.length (bvs lw) :: bk p 60 #[v] :: M) (w := w1) B 60 vb l3 (some ⟨w2.heap.size, 0, none⟩) cp (ls name) hs (by rw [ls_len]; have := HL3.out; omega) (fun w2 N h => Byts.src (e := 5) hb h Try.underlying24 cp)
    rw [ls_len] at this
    exact this
  have HCR := Lib.hid (HCR.out.mono hle0)
  have HCS := Lib.hid (HCS.out.mono hle0)
  have HCW := Lib.hid (HCW.out.mono hle0)
  have HLE0 := Lib.hid hle0
  clear hle0 hb
  obtain ⟨hcb9, hfb9, hlb9⟩ := (show Blk _ B 60 #[_] from hs.at 1 rfl).one
  clear hs
  go_wp2_with fail
  go_at_call 50
  refine HC.out.mono ?_
  clear hc1 hf1 hl1 hcb hfb hlb
  clear HS HC vb hcb9 hfb9 hlb9
  rintro e w2 ⟨_, _, _, rfl, _, hs, rfl, rfl, vb, rfl⟩
  obtain ⟨l4, e4⟩ : ∃ z, z = l3 ++ ls name := ⟨_, rfl⟩
  rw [← e4] at hs
  have HL4 := Lib.hid (show l4.length ≤ 70 from by rw [e4, List.length_append]; have := HL3.out; have : (ls name).length = name.size := ls_len name; omega)
  have HE4 := Lib.hid e4
  clear e4
  have HS := Lib.hid hs
  clear hs
  obtain ⟨hc1, hf1, hl1⟩ := Blk.all (HS.out.at 2 rfl)
  rw [HC1.out] at hc1
  obtain ⟨hcb, hfb, hlb⟩ := (show Blk _ B 60 #[_] from HS.out.at 1 rfl).one
  have HC := Lib.hid (wU8 (I := J0) B 60 vb l4 0 HS.out (by have := HL4.out; omega) (by decide))
  go_wp2_with fail
  go_at_call 49
  refine HC.out.mono ?_
  clear hc1 hf1 hl1 hcb hfb hlb
  clear HS HC vb
  rintro e w2 ⟨_, _, _, rfl, _, hs, rfl, rfl, vb, rfl⟩
  obtain ⟨l5, e5⟩ : ∃ z, z = l4 ++ [byteOf 0] := ⟨_, rfl⟩
  rw [← e5] at hs
  have HL5 := Lib.hid (show l5.length ≤ 71 from by rw [e5, List.length_append]; have := HL4.out; have : ([byteOf 0]).length = 1 := (by first | rfl | simp); omega)
  have HE5 := Lib.hid e5
  clear e5
  have HS := Lib.hid hs
  clear hs
  obtain ⟨hc1, hf1, hl1⟩ := Blk.all (HS.out.at 2 rfl)
  rw [HC1.out] at hc1
  obtain ⟨hcb, hfb, hlb⟩ := (show Blk _ B 60 #[_] from HS.out.at 1 rfl).one
  go_upto_region 47 with fail
  go_upto_region 48 with fail
  clear hc1 hf1 hl1 hcb hfb hlb
  go_loopw [160] (fun iv wr => ∃ i : Nat, i ≤ reps.length ∧ iv = .int .i64 i ∧ Hid (∃ vb, St J0 (row 5 1 vb (l5 ++ (reps.take i).flatMap repL).length (bvs (l5 ++ (reps.take i).flatMap repL)) :: bk B 60 #[vb] :: bk q1 51 cs1 :: row 5 1 v lw.length (bvs lw) :: bk p 60 #[v] :: M) wr)) (fun iv _ => reps.length - (intOf iv).toNat)
  case atStart => exact ⟨0, by omega, rfl, vb, by simpa using HS.out⟩
  case round =>
    obtain ⟨i, hi, rfl, hh⟩ := hrel
    obtain ⟨vb, hs⟩ := hh.out
    have HS := Lib.hid hs
    clear hh hs
    by_cases hlt : i < reps.length
    · skip
      have hsn := fm_snoc repL reps i hlt
      obtain ⟨g, o, rfl, hcell⟩ := flat_get (s := 7) (fun _ => rfl) HCR.out (by omega) (by decide)
      have hm := HOK.out.reps _ (List.getElem_mem hlt)
      replace hcell : ∀ j, j < 7 → wr.cell? ⟨g, o + i * 7 + j, none⟩ = (repC reps[i])[j]? := fun j hj => hcell _ _ HS.out i hlt j hj
      obtain ⟨x, hxe⟩ : ∃ x, x = reps[i] := ⟨_, rfl⟩
      rw [← hxe] at hcell hm hsn
      have z0 : wr.cell? ⟨g, o + i * 7, none⟩ = some (.int .u32 x.src) := hcell 0 (by decide)
      have z1 : wr.cell? ⟨g, o + i * 7 + 1, none⟩ = some (.int .u8 x.lost) := hcell 1 (by decide)
      have z2 : wr.cell? ⟨g, o + i * 7 + 2, none⟩ = some (.int .u32 x.total) := hcell 2 (by decide)
      have z3 : wr.cell? ⟨g, o + i * 7 + 3, none⟩ = some (.int .u32 x.high) := hcell 3 (by decide)
      have z4 : wr.cell? ⟨g, o + i * 7 + 4, none⟩ = some (.int .u32 x.jit) := hcell 4 (by decide)
      have z5 : wr.cell? ⟨g, o + i * 7 + 5, none⟩ = some (.int .u32 x.last) := hcell 5 (by decide)
      have z6 : wr.cell? ⟨g, o + i * 7 + 6, none⟩ = some (.int .u32 x.delay) := hcell 6 (by decide)
      obtain ⟨lb, e1⟩ : ∃ z, z = l5 ++ (reps.take i).flatMap repL := ⟨_, rfl⟩
      have HL := Lib.hid (show lb.length ≤ 815 from by rw [e1, List.length_append]; have := HL5.out; have := fm_le (f := repL) (s := 24) (n := 31) (fun x => by first | rfl | exact repL_len x) reps i (by omega); omega)
      have hs := HS.out
      rw [← e1] at hs
      have HSN := Lib.hid (And.intro e1 hsn)
      clear HS hcell hsn hxe e1
      have HS := Lib.hid hs
      clear hs
      have hs := HS.out.grow (.cells #[.int .u32 x.src, .int .u8 x.lost, .int .u32 x.total, .int .u32 x.high, .int .u32 x.jit, .int .u32 x.last, .int .u32 x.delay] 65)
      have HC := Lib.hid (repW J0 (bk q1 51 cs1 :: row 5 1 v lw.length (bvs lw) :: bk p 60 #[v] :: M) _ B 60 vb lb x hm hs (by have := HL.out; omega))
      clear hs HS hm
      go_wp2_with fail
      go_at_call 54
      refine HC.out.mono ?_
      rintro e w2 ⟨_, _, _, rfl, _, hs, rfl, rfl, vb, rfl⟩
      rw [HSN.out.1, List.append_assoc, ← HSN.out.2] at hs
      have HS := Lib.hid hs
      clear hs HC HSN
      go_wp2
      go_roundw
      case rel => exact ⟨i + 1, by omega, by go_num, vb, HS.out⟩
      case measure => simp [intOf]; omega
    · skip
      have hin : i = reps.length := by omega
      have hs := HS.out
      rw [hin, List.take_length] at hs
      subst hin
      clear HS
      obtain ⟨l6, e6⟩ : ∃ z, z = l5 ++ reps.flatMap repL := ⟨_, rfl⟩
      rw [← e6] at hs
      have HL6 := Lib.hid (show l6.length ≤ 815 from by rw [e6, List.length_append]; have := HL5.out; have := fm_len (f := repL) (s := 24) (fun x => by first | rfl | exact repL_len x) reps; omega)
      have HE6 := Lib.hid e6
      clear e6
      have HS := Lib.hid hs
      clear hs
      obtain ⟨hc1, hf1, hl1⟩ := Blk.all (HS.out.at 2 rfl)
      rw [HC1.out] at hc1
      obtain ⟨hcb, hfb, hlb⟩ := (show Blk _ B 60 #[_] from HS.out.at 1 rfl).one
      go_upto_region 53 with fail
      clear hc1 hf1 hl1 hcb hfb hlb
      go_loopw [170] (fun iv wr => ∃ i : Nat, i ≤ srcs.length ∧ iv = .int .i64 i ∧ Hid (∃ vb, St J0 (row 5 1 vb (l6 ++ (srcs.take i).flatMap u32B).length (bvs (l6 ++ (srcs.take i).flatMap u32B)) :: bk B 60 #[vb] :: bk q1 51 cs1 :: row 5 1 v lw.length (bvs lw) :: bk p 60 #[v] :: M) wr)) (fun iv _ => srcs.length - (intOf iv).toNat)
      case atStart => exact ⟨0, by omega, rfl, vb, by simpa using HS.out⟩
      case round =>
        obtain ⟨i, hi, rfl, hh⟩ := hrel
        obtain ⟨vb, hs⟩ := hh.out
        have HS := Lib.hid hs
        clear hh hs
        by_cases hlt : i < srcs.length
        · skip
          have hsn := fm_snoc u32B srcs i hlt
          obtain ⟨g, o, rfl, hcell⟩ := flat_get (s := 1) (fun _ => rfl) HCS.out (by omega) (by decide)
          have hm := HOK.out.srcs _ (List.getElem_mem hlt)
          replace hcell : ∀ j, j < 1 → wr.cell? ⟨g, o + i * 1 + j, none⟩ = (u32C srcs[i])[j]? := fun j hj => hcell _ _ HS.out i hlt j hj
          obtain ⟨x, hxe⟩ : ∃ x, x = srcs[i] := ⟨_, rfl⟩
          rw [← hxe] at hcell hm hsn
          have z0 : wr.cell? ⟨g, o + i, none⟩ = some (.int .u32 x) := by have := hcell 0 (by decide); simpa using this
          obtain ⟨lb, e1⟩ : ∃ z, z = l6 ++ (srcs.take i).flatMap u32B := ⟨_, rfl⟩
          have HL := Lib.hid (show lb.length ≤ 939 from by rw [e1, List.length_append]; have := HL6.out; have := fm_le (f := u32B) (s := 4) (n := 31) (fun x => by first | rfl | exact repL_len x) srcs i (by omega); omega)
          have hs := HS.out
          rw [← e1] at hs
          have HSN := Lib.hid (And.intro e1 hsn)
          clear HS hcell hsn hxe e1
          have HS := Lib.hid hs
          clear hs
          have HC := Lib.hid (wU32 (I := J0) B 60 vb lb x HS.out (by have := HL.out; omega) hm)
          clear HS hm
          go_wp2_with fail
          go_at_call 48
          refine HC.out.mono ?_
          rintro e w2 ⟨_, _, _, rfl, _, hs, rfl, rfl, vb, rfl⟩
          rw [HSN.out.1, List.append_assoc, ← HSN.out.2] at hs
          have HS := Lib.hid hs
          clear hs HC HSN
          go_wp2
          go_roundw
          case rel => exact ⟨i + 1, by omega, by go_num, vb, HS.out⟩
          case measure => simp [intOf]; omega
        · skip
          have hin : i = srcs.length := by omega
          have hs := HS.out
          rw [hin, List.take_length] at hs
          subst hin
          clear HS
          obtain ⟨l7, e7⟩ : ∃ z, z = l6 ++ srcs.flatMap u32B := ⟨_, rfl⟩
          rw [← e7] at hs
          have HL7 := Lib.hid (show l7.length ≤ 939 from by rw [e7, List.length_append]; have := HL6.out; have := fm_len (f := u32B) (s := 4) (fun x => by first | rfl | exact repL_len x) srcs; omega)
          have HE7 := Lib.hid e7
          clear e7
          have HS := Lib.hid hs
          clear hs
          obtain ⟨hc1, hf1, hl1⟩ := Blk.all (HS.out.at 2 rfl)
          rw [HC1.out] at hc1
          obtain ⟨hcb, hfb, hlb⟩ := (show Blk _ B 60 #[_] from HS.out.at 1 rfl).one
          go_upto_region 58 with fail
          clear hc1 hf1 hl1 hcb hfb hlb
          go_loopw [180] (fun iv wr => ∃ i : Nat, i ≤ wants.length ∧ iv = .int .i64 i ∧ Hid (∃ vb, St J0 (row 5 1 vb (l7 ++ (wants.take i).flatMap wnL).length (bvs (l7 ++ (wants.take i).flatMap wnL)) :: bk B 60 #[vb] :: bk q1 51 cs1 :: row 5 1 v lw.length (bvs lw) :: bk p 60 #[v] :: M) wr)) (fun iv _ => wants.length - (intOf iv).toNat)
          case atStart => exact ⟨0, by omega, rfl, vb, by simpa using HS.out⟩
          case round =>
            obtain ⟨i, hi, rfl, hh⟩ := hrel
            obtain ⟨vb, hs⟩ := hh.out
            have HS := Lib.hid hs
            clear hh hs
            by_cases hlt : i < wants.length
            · skip
              have hsn := fm_snoc wnL wants i hlt
              obtain ⟨g, o, rfl, hcell⟩ := flat_get (s := 2) (fun _ => rfl) HCW.out (by omega) (by decide)
              have hm := HOK.out.wants _ (List.getElem_mem hlt)
              replace hcell : ∀ j, j < 2 → wr.cell? ⟨g, o + i * 2 + j, none⟩ = (wnC wants[i])[j]? := fun j hj => hcell _ _ HS.out i hlt j hj
              obtain ⟨x, hxe⟩ : ∃ x, x = wants[i] := ⟨_, rfl⟩
              rw [← hxe] at hcell hm hsn
              have z0 : wr.cell? ⟨g, o + i * 2, none⟩ = some (.int .u32 x.src) := hcell 0 (by decide)
              have z1 : wr.cell? ⟨g, o + i * 2 + 1, none⟩ = some (.int .u8 x.seq) := hcell 1 (by decide)
              obtain ⟨lb, e1⟩ : ∃ z, z = l7 ++ (wants.take i).flatMap wnL := ⟨_, rfl⟩
              have HL := Lib.hid (show lb.length ≤ 1003 from by rw [e1, List.length_append]; have := HL7.out; have := fm_le (f := wnL) (s := 8) (n := 8) (fun x => by first | rfl | exact repL_len x) wants i (by omega); omega)
              have hs := HS.out
              rw [← e1] at hs
              have HSN := Lib.hid (And.intro e1 hsn)
              clear HS hcell hsn hxe e1
              have HS := Lib.hid hs
              clear hs
              have hs := (HS.out.alloc 68 #[.int .u32 x.src, .int .u8 x.seq]).swap2.swap1
              obtain ⟨qw, hqw⟩ : ∃ q, q = wr.heap.size := ⟨_, rfl⟩
              rw [← hqw] at hs
              have HQW := Lib.hid hqw
              clear hqw
              have HC := Lib.hid (wU32 (I := J0) (M := bk qw 68 #[.int .u32 x.src, .int .u8 x.seq] :: bk q1 51 cs1 :: row 5 1 v lw.length (bvs lw) :: bk p 60 #[v] :: M) B 60 vb lb x.src hs (by have := HL.out; omega) hm.1)
              have HM := Lib.hid hm
              have hx2 := hm.2
              obtain ⟨hx3, hx4⟩ := hx2
              have hsq := hs
              clear hs HS hm
              go_upto_region 60 with fail
              rw [← HQW.out]
              obtain ⟨hx5, hx6, hx7, hx8, hx9⟩ := (show Blk _ qw 68 #[.int .u32 x.src, .int .u8 x.seq] from hsq.at 2 rfl).two
              go_wp2_with fail
              go_at_call 48
              refine HC.out.mono ?_
              rintro e w2 ⟨_, _, _, rfl, _, hs, rfl, rfl, vb, rfl⟩
              clear hx5 hx6 hx7 hx8 hx9 hsq
              obtain ⟨hx5, hx6, hx7, hx8, hx9⟩ := (show Blk _ qw 68 #[.int .u32 x.src, .int .u8 x.seq] from hs.at 2 rfl).two
              obtain ⟨lc, hlc⟩ : ∃ z, z = lb ++ u32B x.src := ⟨_, rfl⟩
              rw [← hlc] at hs
              have HC2 := Lib.hid (wU32 (I := J0) B 60 vb lc (x.seq * 16777216) hs (by rw [hlc, List.length_append, u32B_len]; have := HL.out; omega) ⟨by omega, by omega⟩)
              have HLC := Lib.hid hlc
              clear hs hlc HC
              go_wp2_with fail
              go_at_call 48
              refine HC2.out.mono ?_
              rintro e w3 ⟨_, _, _, rfl, _, hs, rfl, rfl, vb, rfl⟩
              rw [HLC.out, List.append_assoc lb] at hs
              have HC := HC2
              clear HC2 HLC
              replace hs : St J0 (row 5 1 vb (lb ++ wnL x).length (bvs (lb ++ wnL x)) :: bk B 60 #[vb] :: bk q1 51 cs1 :: row 5 1 v lw.length (bvs lw) :: bk p 60 #[v] :: M) w3 := hs.swap1.swap2.drop
              clear hx5 hx6 hx7 hx8 hx9
              rw [HSN.out.1, List.append_assoc, ← HSN.out.2] at hs
              have HS := Lib.hid hs
              clear hs HC HSN
              go_wp2
              go_roundw
              case rel => exact ⟨i + 1, by omega, by go_num, vb, HS.out⟩
              case measure => simp [intOf]; omega
            · skip
              have hin : i = wants.length := by omega
              have hs := HS.out
              rw [hin, List.take_length] at hs
              subst hin
              clear HS
              obtain ⟨l8, e8⟩ : ∃ z, z = l7 ++ wants.flatMap wnL := ⟨_, rfl⟩
              rw [← e8] at hs
              have HL8 := Lib.hid (show l8.length ≤ 1003 from by rw [e8, List.length_append]; have := HL7.out; have := fm_len (f := wnL) (s := 8) (fun x => by first | rfl | exact repL_len x) wants; omega)
              have HE8 := Lib.hid e8
              clear e8
              have HS := Lib.hid hs
              clear hs
              obtain ⟨hc1, hf1, hl1⟩ := Blk.all (HS.out.at 2 rfl)
              rw [HC1.out] at hc1
              obtain ⟨hcb, hfb, hlb⟩ := (show Blk _ B 60 #[_] from HS.out.at 1 rfl).one
              have HC := Lib.hid (evenC J0 _ _ B 60 vb l8 HS.out (by have := HL8.out; omega))
              go_wp2_with fail
              go_at_call 55
              refine HC.out.mono ?_
              clear hc1 hf1 hl1 hcb hfb hlb
              clear HS HC vb
              rintro e w2 ⟨_, _, _, rfl, _, hs, rfl, rfl, vb, rfl⟩
              obtain ⟨lb, hlb⟩ : ∃ z, z = evenL l8 := ⟨_, rfl⟩
              rw [← hlb] at hs
              have HLB := Lib.hid (show lb.length ≤ 1006 from by rw [hlb]; have := HL8.out; have := evenL_le l8; omega)
              have HEB := Lib.hid hlb
              clear hlb
              have hs := hs.rot23
              have hlow := bits_or64 HLOW.out.1 HLOW.out.2
              have hlo := HLOW.out
              simp only [lowP, whereP, if_true, if_false, Int.reduceEq, Int.reduceNeg, Int.reduceLT] at hlow hlo
              obtain ⟨hlo1, hlo2⟩ := hlo
              have HC := Lib.hid (wU8 (I := J0) p 60 v lw (128 + 1) hs (by omega) (by omega))
              clear hs
              go_wp2_with fail
              go_at_call 49
              refine HC.out.mono ?_
              clear HC
              rintro e w2 ⟨_, _, _, rfl, _, hs, rfl, rfl, v, rfl⟩
              have HC := Lib.hid (wU8 (I := J0) p 60 v _ 202 hs (by rw [List.length_append]; show _ + 1 ≤ _; omega) (by decide))
              clear hs hlow hlo1 hlo2
              go_wp2_with fail
              go_at_call 49
              refine HC.out.mono ?_
              clear HC
              rintro e w2 ⟨_, _, _, rfl, _, hs, rfl, rfl, v, rfl⟩
              obtain ⟨lx, hlx⟩ : ∃ z, z = lw ++ [byteOf (128 + 1)] ++ [byteOf 202] := ⟨_, rfl⟩
              rw [← hlx] at hs
              have hlxl : lx.length = lw.length + 2 := by rw [hlx]; simp
              have HLX := Lib.hid hlx
              clear hlx
              have h5 := HLB.out
              have HC := Lib.hid (wU16 (I := J0) p 60 v lx ((lb.length / 4 : Nat) : Int) hs (by omega) ⟨by omega, by omega⟩)
              obtain ⟨A, c, rfl⟩ := own_form (show World.ownsRow _ 0 5 1 vb lb.length (bvs lb) from hs.at 2 rfl)
              obtain ⟨hcb, hfb, hlb⟩ := (show Blk _ B 60 #[_] from hs.at 3 rfl).one
              clear hs
              go_wp2_with fail
              go_at_call 52
              refine HC.out.mono ?_
              clear HC hcb hfb hlb
              rintro e w2 ⟨_, _, _, rfl, _, hs, rfl, rfl, v, rfl⟩
              have hs := hs.rot32
              obtain ⟨J, hle, hs, hA⟩ := hs.freezeRow
              have hs := hs.rot22
              obtain ⟨hcb, hfb, hlb⟩ := (show Blk _ B 60 #[_] from hs.at 2 rfl).one
              obtain ⟨ly, hly⟩ : ∃ z, z = lx ++ u16B ((lb.length / 4 : Nat) : Int) := ⟨_, rfl⟩
              rw [← hly] at hs
              have hlyl : ly.length = lx.length + 2 := by rw [hly, List.length_append, u16B_len]
              have HLY := Lib.hid hly
              have HC := Lib.hid (wBytes (I := J) p 60 v ly A c lb hs (by omega) (fun w2 N h => Byts.src (e := 5) (show Byts J A lb from hA) h Try.underlying24 c))
              have HLE := Lib.hid hle
              clear hs hly hle hA
              go_wp2_with fail
              go_at_call 50
              refine HC.out.mono ?_
              rintro e w2 ⟨_, _, _, rfl, _, hs, rfl, rfl, v, rfl⟩
              have HS := Lib.hid hs.drop23
              clear hs HC
              go_wp2
              go_returns
              refine Ret.mk (HLE0.out.trans HLE.out) HS.out ⟨rfl, v, ?_⟩
              have hb : l8 = bodyL (⟨3, sender, media, ntp, rtp, pkts, octs, reps, name, srcs, seqs, base, ref, count, arrs, wants⟩ : Pk) := by
                rw [HE8.out, HE7.out, HE6.out, HE5.out, HE4.out, HE3.out, HE2.out, HE1.out, HE0.out]
                simp [bodyL, kindL, flatU32]
              have hlb2 : lb = evenL (bodyL (⟨3, sender, media, ntp, rtp, pkts, octs, reps, name, srcs, seqs, base, ref, count, arrs, wants⟩ : Pk)) := by rw [HEB.out, hb]
              have he : lp ++ packB (⟨3, sender, media, ntp, rtp, pkts, octs, reps, name, srcs, seqs, base, ref, count, arrs, wants⟩ : Pk) = ly ++ lb := by
                unfold packB
                rw [← hlb2, HLY.out, HLX.out, ← HLW.out]
                simp [lowP, whereP]
              rw [he]
end Go.Proofs.Ytddopbbmgpnjjaa
namespace Go.Proofs.Ytddopbbmgpnjjaa
open Go.RowKit
set_option linter.unusedSimpArgs false


set_option maxRecDepth 100000 in
set_option maxHeartbeats 40000000 in
theorem write4 (I : Img) (M : List Res) (w : World) (sender : Int) (media : Int) (ntp : Int) (rtp : Int) (pkts : Int) (octs : Int) (base : Int) (ref : Int) (count : Int) (name : ByteArray) (reps : List Rp) (srcs seqs arrs : List Int) (wants : List Wn) (rA : Option Addr) (rz : Nat) (sA : Option Addr) (sz : Nat) (qA : Option Addr) (qz : Nat) (aA : Option Addr) (az : Nat) (wA : Option Addr) (wz : Nat) (cr : Cells I rA (flat repC reps)) (cs : Cells I sA (flat u32C srcs)) (cq : Cells I qA (flat u16C seqs)) (ca : Cells I aA (flat intC arrs)) (cw : Cells I wA (flat wnC wants)) (p : Nat) (v : Value) (lp : List UInt8) (hok : PkOk (⟨4, sender, media, ntp, rtp, pkts, octs, reps, name, srcs, seqs, base, ref, count, arrs, wants⟩ : Pk)) (hg : Good (⟨4, sender, media, ntp, rtp, pkts, octs, reps, name, srcs, seqs, base, ref, count, arrs, wants⟩ : Pk)) (hl0 : lp.length ≤ 70368744170000) (hst : St I (row 5 1 v lp.length (bvs lp) :: bk p 60 #[v] :: M) w) :
    Calls Try.prog 21 #[.agg #[.int .i64 4, .int .u32 sender, .int .u32 media, .int .u64 ntp, .int .u32 rtp, .int .u32 pkts, .int .u32 octs, .slice rA reps.length rz, .string name, .slice sA srcs.length sz, .slice qA seqs.length qz, .int .u16 base, .int .u32 ref, .int .u8 count, .slice aA arrs.length az, .slice wA wants.length wz], .pointer (some ⟨p, 0, none⟩)] w (Ret I (fun v' _ M' => Wrote M p 60 (lp ++ packB (⟨4, sender, media, ntp, rtp, pkts, octs, reps, name, srcs, seqs, base, ref, count, arrs, wants⟩ : Pk)) v' M')) := by
  have hs1 := hst.alloc 51 #[.int .i64 4, .int .u32 sender, .int .u32 media, .int .u64 ntp, .int .u32 rtp, .int .u32 pkts, .int .u32 octs, .slice rA reps.length rz, .string name, .slice sA srcs.length sz, .slice qA seqs.length qz, .int .u16 base, .int .u32 ref, .int .u8 count, .slice aA arrs.length az, .slice wA wants.length wz]
  have HOK := Lib.hid hok
  obtain ⟨n1, n2, n3, n4, n5, n6⟩ := good_lens hg
  have HLOW := Lib.hid (lowP_ok hg)
  simp only [] at n1 n2 n3 n4 n5 n6
  have HCR := Lib.hid cr
  have HCS := Lib.hid cs
  have HCW := Lib.hid cw
  have HCQ := Lib.hid cq
  have HCA := Lib.hid ca
  clear cr cs cq ca cw

  have HW := Lib.hid (whereC 4 (w.alloc (.cells #[.int .i64 4, .int .u32 sender, .int .u32 media, .int .u64 ntp, .int .u32 rtp, .int .u32 pkts, .int .u32 octs, .slice rA reps.length rz, .string name, .slice sA srcs.length sz, .slice qA seqs.length qz, .int .u16 base, .int .u32 ref, .int .u8 count, .slice aA arrs.length az, .slice wA wants.length wz] 51)))
  obtain ⟨q1, hq1⟩ : ∃ q, q = w.heap.size := ⟨_, rfl⟩
  rw [← hq1] at hs1
  clear hst hok hg
  go_enter Try.func21, Try.ntmps21
  go_upto_region 1 with fail
  rw [← hq1]
  clear hq1
  generalize World.alloc w _ = W at hs1 HW ⊢
  obtain ⟨hc1, hf1, hl1⟩ := Blk.all (hs1.at 0 rfl)
  have HS0 := Lib.hid hs1
  clear hs1
  go_wp2_with fail
  go_at_call 47
  refine HW.out.mono ?_
  rintro e w2 ⟨rfl, hw⟩
  subst hw
  simp only [whereP, if_true, if_false, Int.reduceEq, Int.reduceNeg]
  clear HW
  go_upto_region 5 with fail
  have hs : St I (row 5 1 (.slice none 0 0) ([] : List UInt8).length (bvs []) :: bk W.heap.size 60 #[.slice none 0 0] :: bk q1 51 #[.int .i64 4, .int .u32 sender, .int .u32 media, .int .u64 ntp, .int .u32 rtp, .int .u32 pkts, .int .u32 octs, .slice rA reps.length rz, .string name, .slice sA srcs.length sz, .slice qA seqs.length qz, .int .u16 base, .int .u32 ref, .int .u8 count, .slice aA arrs.length az, .slice wA wants.length wz] :: row 5 1 v lp.length (bvs lp) :: bk p 60 #[v] :: M) (W.alloc (.cells #[.slice none 0 0] 60)) := (HS0.out.alloc 60 #[.slice none 0 0]).nil
  obtain ⟨B, hB⟩ : ∃ B, B = W.heap.size := ⟨_, rfl⟩
  rw [← hB] at hs ⊢
  generalize World.alloc W _ = W2 at hs ⊢
  clear hB hc1 hf1 hl1 HS0
  obtain ⟨cs1, hcs1⟩ : ∃ z : Array Value, z = #[.int .i64 4, .int .u32 sender, .int .u32 media, .int .u64 ntp, .int .u32 rtp, .int .u32 pkts, .int .u32 octs, .slice rA reps.length rz, .string name, .slice sA srcs.length sz, .slice qA seqs.length qz, .int .u16 base, .int .u32 ref, .int .u8 count, .slice aA arrs.length az, .slice wA wants.length wz] := ⟨_, rfl⟩
  rw [← hcs1] at hs
  have HC1 := Lib.hid hcs1
  clear hcs1
  obtain ⟨vb, hvb⟩ : ∃ vb : Value, vb = .slice none 0 0 := ⟨_, rfl⟩
  rw [← hvb] at hs
  clear hvb
  obtain ⟨lw, hlw⟩ : ∃ lw, lw = lp := ⟨_, rfl⟩
  rw [← hlw] at hs hl0
  have HLW := Lib.hid hlw
  clear hlw
  obtain ⟨l0, e0⟩ : ∃ z : List UInt8, z = [] := ⟨_, rfl⟩
  rw [← e0] at hs
  have HL0 := Lib.hid (show l0.length ≤ 0 from by rw [e0]; exact Nat.le_refl _)
  have HE0 := Lib.hid e0
  have HS := Lib.hid hs
  clear hs e0
  obtain ⟨hc1, hf1, hl1⟩ := Blk.all (HS.out.at 2 rfl)
  rw [HC1.out] at hc1
  obtain ⟨hcb, hfb, hlb⟩ := (show Blk _ B 60 #[_] from HS.out.at 1 rfl).one
  go_upto_region 47 with fail
  go_upto_region 48 with fail
  clear hc1 hf1 hl1 hcb hfb hlb
  go_loopw [160] (fun iv wr => ∃ i : Nat, i ≤ reps.length ∧ iv = .int .i64 i ∧ Hid (∃ vb, St I (row 5 1 vb (l0 ++ (reps.take i).flatMap repL).length (bvs (l0 ++ (reps.take i).flatMap repL)) :: bk B 60 #[vb] :: bk q1 51 cs1 :: row 5 1 v lw.length (bvs lw) :: bk p 60 #[v] :: M) wr)) (fun iv _ => reps.length - (intOf iv).toNat)
  case atStart => exact ⟨0, by omega, rfl, vb, by simpa using HS.out⟩
  case round =>
    obtain ⟨i, hi, rfl, hh⟩ := hrel
    obtain ⟨vb, hs⟩ := hh.out
    have HS := Lib.hid hs
    clear hh hs
    by_cases hlt : i < reps.length
    · skip
      have hsn := fm_snoc repL reps i hlt
      obtain ⟨g, o, rfl, hcell⟩ := flat_get (s := 7) (fun _ => rfl) HCR.out (by omega) (by decide)
      have hm := HOK.out.reps _ (List.getElem_mem hlt)
      replace hcell : ∀ j, j < 7 → wr.cell? ⟨g, o + i * 7 + j, none⟩ = (repC reps[i])[j]? := fun j hj => hcell _ _ HS.out i hlt j hj
      obtain ⟨x, hxe⟩ : ∃ x, x = reps[i] := ⟨_, rfl⟩
      rw [← hxe] at hcell hm hsn
      have z0 : wr.cell? ⟨g, o + i * 7, none⟩ = some (.int .u32 x.src) := hcell 0 (by decide)
      have z1 : wr.cell? ⟨g, o + i * 7 + 1, none⟩ = some (.int .u8 x.lost) := hcell 1 (by decide)
      have z2 : wr.cell? ⟨g, o + i * 7 + 2, none⟩ = some (.int .u32 x.total) := hcell 2 (by decide)
      have z3 : wr.cell? ⟨g, o + i * 7 + 3, none⟩ = some (.int .u32 x.high) := hcell 3 (by decide)
      have z4 : wr.cell? ⟨g, o + i * 7 + 4, none⟩ = some (.int .u32 x.jit) := hcell 4 (by decide)
      have z5 : wr.cell? ⟨g, o + i * 7 + 5, none⟩ = some (.int .u32 x.last) := hcell 5 (by decide)
      have z6 : wr.cell? ⟨g, o + i * 7 + 6, none⟩ = some (.int .u32 x.delay) := hcell 6 (by decide)
      obtain ⟨lb, e1⟩ : ∃ z, z = l0 ++ (reps.take i).flatMap repL := ⟨_, rfl⟩
      have HL := Lib.hid (show lb.length ≤ 744 from by rw [e1, List.length_append]; have := HL0.out; have := fm_le (f := repL) (s := 24) (n := 31) (fun x => by first | rfl | exact repL_len x) reps i (by omega); omega)
      have hs := HS.out
      rw [← e1] at hs
      have HSN := Lib.hid (And.intro e1 hsn)
      clear HS hcell hsn hxe e1
      have HS := Lib.hid hs
      clear hs
      have hs := HS.out.grow (.cells #[.int .u32 x.src, .int .u8 x.lost, .int .u32 x.total, .int .u32 x.high, .int .u32 x.jit, .int .u32 x.last, .int .u32 x.delay] 65)
      have HC := Lib.hid (repW I (bk q1 51 cs1 :: row 5 1 v lw.length (bvs lw) :: bk p 60 #[v] :: M) _ B 60 vb lb x hm hs (by have := HL.out; omega))
      clear hs HS hm
      go_wp2_with fail
      go_at_call 54
      refine HC.out.mono ?_
      rintro e w2 ⟨_, _, _, rfl, _, hs, rfl, rfl, vb, rfl⟩
      rw [HSN.out.1, List.append_assoc, ← HSN.out.2] at hs
      have HS := Lib.hid hs
      clear hs HC HSN
      go_wp2
      go_roundw
      case rel => exact ⟨i + 1, by omega, by go_num, vb, HS.out⟩
      case measure => simp [intOf]; omega
    · skip
      have hin : i = reps.length := by omega
      have hs := HS.out
      rw [hin, List.take_length] at hs
      subst hin
      clear HS
      obtain ⟨l1, e1⟩ : ∃ z, z = l0 ++ reps.flatMap repL := ⟨_, rfl⟩
      rw [← e1] at hs
      have HL1 := Lib.hid (show l1.length ≤ 744 from by rw [e1, List.length_append]; have := HL0.out; have := fm_len (f := repL) (s := 24) (fun x => by first | rfl | exact repL_len x) reps; omega)
      have HE1 := Lib.hid e1
      clear e1
      have HS := Lib.hid hs
      clear hs
      obtain ⟨hc1, hf1, hl1⟩ := Blk.all (HS.out.at 2 rfl)
      rw [HC1.out] at hc1
      obtain ⟨hcb, hfb, hlb⟩ := (show Blk _ B 60 #[_] from HS.out.at 1 rfl).one
      go_upto_region 53 with fail
      clear hc1 hf1 hl1 hcb hfb hlb
      go_loopw [170] (fun iv wr => ∃ i : Nat, i ≤ srcs.length ∧ iv = .int .i64 i ∧ Hid (∃ vb, St I (row 5 1 vb (l1 ++ (srcs.take i).flatMap u32B).length (bvs (l1 ++ (srcs.take i).flatMap u32B)) :: bk B 60 #[vb] :: bk q1 51 cs1 :: row 5 1 v lw.length (bvs lw) :: bk p 60 #[v] :: M) wr)) (fun iv _ => srcs.length - (intOf iv).toNat)
      case atStart => exact ⟨0, by omega, rfl, vb, by simpa using HS.out⟩
      case round =>
        obtain ⟨i, hi, rfl, hh⟩ := hrel
        obtain ⟨vb, hs⟩ := hh.out
        have HS := Lib.hid hs
        clear hh hs
        by_cases hlt : i < srcs.length
        · skip
          have hsn := fm_snoc u32B srcs i hlt
          obtain ⟨g, o, rfl, hcell⟩ := flat_get (s := 1) (fun _ => rfl) HCS.out (by omega) (by decide)
          have hm := HOK.out.srcs _ (List.getElem_mem hlt)
          replace hcell : ∀ j, j < 1 → wr.cell? ⟨g, o + i * 1 + j, none⟩ = (u32C srcs[i])[j]? := fun j hj => hcell _ _ HS.out i hlt j hj
          obtain ⟨x, hxe⟩ : ∃ x, x = srcs[i] := ⟨_, rfl⟩
          rw [← hxe] at hcell hm hsn
          have z0 : wr.cell? ⟨g, o + i, none⟩ = some (.int .u32 x) := by have := hcell 0 (by decide); simpa using this
          obtain ⟨lb, e1⟩ : ∃ z, z = l1 ++ (srcs.take i).flatMap u32B := ⟨_, rfl⟩
          have HL := Lib.hid (show lb.length ≤ 868 from by rw [e1, List.length_append]; have := HL1.out; have := fm_le (f := u32B) (s := 4) (n := 31) (fun x => by first | rfl | exact repL_len x) srcs i (by omega); omega)
          have hs := HS.out
          rw [← e1] at hs
          have HSN := Lib.hid (And.intro e1 hsn)
          clear HS hcell hsn hxe e1
          have HS := Lib.hid hs
          clear hs
          have HC := Lib.hid (wU32 (I := I) B 60 vb lb x HS.out (by have := HL.out; omega) hm)
          clear HS hm
          go_wp2_with fail
          go_at_call 48
          refine HC.out.mono ?_
          rintro e w2 ⟨_, _, _, rfl, _, hs, rfl, rfl, vb, rfl⟩
          rw [HSN.out.1, List.append_assoc, ← HSN.out.2] at hs
          have HS := Lib.hid hs
          clear hs HC HSN
          go_wp2
          go_roundw
          case rel => exact ⟨i + 1, by omega, by go_num, vb, HS.out⟩
          case measure => simp [intOf]; omega
        · skip
          have hin : i = srcs.length := by omega
          have hs := HS.out
          rw [hin, List.take_length] at hs
          subst hin
          clear HS
          obtain ⟨l2, e2⟩ : ∃ z, z = l1 ++ srcs.flatMap u32B := ⟨_, rfl⟩
          rw [← e2] at hs
          have HL2 := Lib.hid (show l2.length ≤ 868 from by rw [e2, List.length_append]; have := HL1.out; have := fm_len (f := u32B) (s := 4) (fun x => by first | rfl | exact repL_len x) srcs; omega)
          have HE2 := Lib.hid e2
          clear e2
          have HS := Lib.hid hs
          clear hs
          obtain ⟨hc1, hf1, hl1⟩ := Blk.all (HS.out.at 2 rfl)
          rw [HC1.out] at hc1
          obtain ⟨hcb, hfb, hlb⟩ := (show Blk _ B 60 #[_] from HS.out.at 1 rfl).one
          go_upto_region 58 with fail
          clear hc1 hf1 hl1 hcb hfb hlb
          go_loopw [180] (fun iv wr => ∃ i : Nat, i ≤ wants.length ∧ iv = .int .i64 i ∧ Hid (∃ vb, St I (row 5 1 vb (l2 ++ (wants.take i).flatMap wnL).length (bvs (l2 ++ (wants.take i).flatMap wnL)) :: bk B 60 #[vb] :: bk q1 51 cs1 :: row 5 1 v lw.length (bvs lw) :: bk p 60 #[v] :: M) wr)) (fun iv _ => wants.length - (intOf iv).toNat)
          case atStart => exact ⟨0, by omega, rfl, vb, by simpa using HS.out⟩
          case round =>
            obtain ⟨i, hi, rfl, hh⟩ := hrel
            obtain ⟨vb, hs⟩ := hh.out
            have HS := Lib.hid hs
            clear hh hs
            by_cases hlt : i < wants.length
            · skip
              have hsn := fm_snoc wnL wants i hlt
              obtain ⟨g, o, rfl, hcell⟩ := flat_get (s := 2) (fun _ => rfl) HCW.out (by omega) (by decide)
              have hm := HOK.out.wants _ (List.getElem_mem hlt)
              replace hcell : ∀ j, j < 2 → wr.cell? ⟨g, o + i * 2 + j, none⟩ = (wnC wants[i])[j]? := fun j hj => hcell _ _ HS.out i hlt j hj
              obtain ⟨x, hxe⟩ : ∃ x, x = wants[i] := ⟨_, rfl⟩
              rw [← hxe] at hcell hm hsn
              have z0 : wr.cell? ⟨g, o + i * 2, none⟩ = some (.int .u32 x.src) := hcell 0 (by decide)
              have z1 : wr.cell? ⟨g, o + i * 2 + 1, none⟩ = some (.int .u8 x.seq) := hcell 1 (by decide)
              obtain ⟨lb, e1⟩ : ∃ z, z = l2 ++ (wants.take i).flatMap wnL := ⟨_, rfl⟩
              have HL := Lib.hid (show lb.length ≤ 932 from by rw [e1, List.length_append]; have := HL2.out; have := fm_le (f := wnL) (s := 8) (n := 8) (fun x => by first | rfl | exact repL_len x) wants i (by omega); omega)
              have hs := HS.out
              rw [← e1] at hs
              have HSN := Lib.hid (And.intro e1 hsn)
              clear HS hcell hsn hxe e1
              have HS := Lib.hid hs
              clear hs
              have hs := (HS.out.alloc 68 #[.int .u32 x.src, .int .u8 x.seq]).swap2.swap1
              obtain ⟨qw, hqw⟩ : ∃ q, q = wr.heap.size := ⟨_, rfl⟩
              rw [← hqw] at hs
              have HQW := Lib.hid hqw
              clear hqw
              have HC := Lib.hid (wU32 (I := I) (M := bk qw 68 #[.int .u32 x.src, .int .u8 x.seq] :: bk q1 51 cs1 :: row 5 1 v lw.length (bvs lw) :: bk p 60 #[v] :: M) B 60 vb lb x.src hs (by have := HL.out; omega) hm.1)
              have HM := Lib.hid hm
              have hx2 := hm.2
              obtain ⟨hx3, hx4⟩ := hx2
              have hsq := hs
              clear hs HS hm
              go_upto_region 60 with fail
              rw [← HQW.out]
              obtain ⟨hx5, hx6, hx7, hx8, hx9⟩ := (show Blk _ qw 68 #[.int .u32 x.src, .int .u8 x.seq] from hsq.at 2 rfl).two
              go_wp2_with fail
              go_at_call 48
              refine HC.out.mono ?_
              rintro e w2 ⟨_, _, _, rfl, _, hs, rfl, rfl, vb, rfl⟩
              clear hx5 hx6 hx7 hx8 hx9 hsq
              obtain ⟨hx5, hx6, hx7, hx8, hx9⟩ := (show Blk _ qw 68 #[.int .u32 x.src, .int .u8 x.seq] from hs.at 2 rfl).two
              obtain ⟨lc, hlc⟩ : ∃ z, z = lb ++ u32B x.src := ⟨_, rfl⟩
              rw [← hlc] at hs
              have HC2 := Lib.hid (wU32 (I := I) B 60 vb lc (x.seq * 16777216) hs (by rw [hlc, List.length_append, u32B_len]; have := HL.out; omega) ⟨by omega, by omega⟩)
              have HLC := Lib.hid hlc
              clear hs hlc HC
              go_wp2_with fail
              go_at_call 48
              refine HC2.out.mono ?_
              rintro e w3 ⟨_, _, _, rfl, _, hs, rfl, rfl, vb, rfl⟩
              rw [HLC.out, List.append_assoc lb] at hs
              have HC := HC2
              clear HC2 HLC
              replace hs : St I (row 5 1 vb (lb ++ wnL x).length (bvs (lb ++ wnL x)) :: bk B 60 #[vb] :: bk q1 51 cs1 :: row 5 1 v lw.length (bvs lw) :: bk p 60 #[v] :: M) w3 := hs.swap1.swap2.drop
              clear hx5 hx6 hx7 hx8 hx9
              rw [HSN.out.1, List.append_assoc, ← HSN.out.2] at hs
              have HS := Lib.hid hs
              clear hs HC HSN
              go_wp2
              go_roundw
              case rel => exact ⟨i + 1, by omega, by go_num, vb, HS.out⟩
              case measure => simp [intOf]; omega
            · skip
              have hin : i = wants.length := by omega
              have hs := HS.out
              rw [hin, List.take_length] at hs
              subst hin
              clear HS
              obtain ⟨l3, e3⟩ : ∃ z, z = l2 ++ wants.flatMap wnL := ⟨_, rfl⟩
              rw [← e3] at hs
              have HL3 := Lib.hid (show l3.length ≤ 932 from by rw [e3, List.length_append]; have := HL2.out; have := fm_len (f := wnL) (s := 8) (fun x => by first | rfl | exact repL_len x) wants; omega)
              have HE3 := Lib.hid e3
              clear e3
              have HS := Lib.hid hs
              clear hs
              obtain ⟨hc1, hf1, hl1⟩ := Blk.all (HS.out.at 2 rfl)
              rw [HC1.out] at hc1
              obtain ⟨hcb, hfb, hlb⟩ := (show Blk _ B 60 #[_] from HS.out.at 1 rfl).one
              have HC := Lib.hid (evenC I _ _ B 60 vb l3 HS.out (by have := HL3.out; omega))
              go_wp2_with fail
              go_at_call 55
              refine HC.out.mono ?_
              clear hc1 hf1 hl1 hcb hfb hlb
              clear HS HC vb
              rintro e w2 ⟨_, _, _, rfl, _, hs, rfl, rfl, vb, rfl⟩
              obtain ⟨lb, hlb⟩ : ∃ z, z = evenL l3 := ⟨_, rfl⟩
              rw [← hlb] at hs
              have HLB := Lib.hid (show lb.length ≤ 935 from by rw [hlb]; have := HL3.out; have := evenL_le l3; omega)
              have HEB := Lib.hid hlb
              clear hlb
              have hs := hs.rot23
              have hlow := bits_or64 HLOW.out.1 HLOW.out.2
              have hlo := HLOW.out
              simp only [lowP, whereP, if_true, if_false, Int.reduceEq, Int.reduceNeg, Int.reduceLT] at hlow hlo
              obtain ⟨hlo1, hlo2⟩ := hlo
              have HC := Lib.hid (wU8 (I := I) p 60 v lw (128 + (reps.length + srcs.length : Int)) hs (by omega) (by omega))
              clear hs
              go_wp2_with fail
              go_at_call 49
              refine HC.out.mono ?_
              clear HC
              rintro e w2 ⟨_, _, _, rfl, _, hs, rfl, rfl, v, rfl⟩
              have HC := Lib.hid (wU8 (I := I) p 60 v _ 203 hs (by rw [List.length_append]; show _ + 1 ≤ _; omega) (by decide))
              clear hs hlow hlo1 hlo2
              go_wp2_with fail
              go_at_call 49
              refine HC.out.mono ?_
              clear HC
              rintro e w2 ⟨_, _, _, rfl, _, hs, rfl, rfl, v, rfl⟩
              obtain ⟨lx, hlx⟩ : ∃ z, z = lw ++ [byteOf (128 + (reps.length + srcs.length : Int))] ++ [byteOf 203] := ⟨_, rfl⟩
              rw [← hlx] at hs
              have hlxl : lx.length = lw.length + 2 := by rw [hlx]; simp
              have HLX := Lib.hid hlx
              clear hlx
              have h5 := HLB.out
              have HC := Lib.hid (wU16 (I := I) p 60 v lx ((lb.length / 4 : Nat) : Int) hs (by omega) ⟨by omega, by omega⟩)
              obtain ⟨A, c, rfl⟩ := own_form (show World.ownsRow _ 0 5 1 vb lb.length (bvs lb) from hs.at 2 rfl)
              obtain ⟨hcb, hfb, hlb⟩ := (show Blk _ B 60 #[_] from hs.at 3 rfl).one
              clear hs
              go_wp2_with fail
              go_at_call 52
              refine HC.out.mono ?_
              clear HC hcb hfb hlb
              rintro e w2 ⟨_, _, _, rfl, _, hs, rfl, rfl, v, rfl⟩
              have hs := hs.rot32
              obtain ⟨J, hle, hs, hA⟩ := hs.freezeRow
              have hs := hs.rot22
              obtain ⟨hcb, hfb, hlb⟩ := (show Blk _ B 60 #[_] from hs.at 2 rfl).one
              obtain ⟨ly, hly⟩ : ∃ z, z = lx ++ u16B ((lb.length / 4 : Nat) : Int) := ⟨_, rfl⟩
              rw [← hly] at hs
              have hlyl : ly.length = lx.length + 2 := by rw [hly, List.length_append, u16B_len]
              have HLY := Lib.hid hly
              have HC := Lib.hid (wBytes (I := J) p 60 v ly A c lb hs (by omega) (fun w2 N h => Byts.src (e := 5) (show Byts J A lb from hA) h Try.underlying24 c))
              have HLE := Lib.hid hle
              clear hs hly hle hA
              go_wp2_with fail
              go_at_call 50
              refine HC.out.mono ?_
              rintro e w2 ⟨_, _, _, rfl, _, hs, rfl, rfl, v, rfl⟩
              have HS := Lib.hid hs.drop23
              clear hs HC
              go_wp2
              go_returns
              refine Ret.mk (HLE.out) HS.out ⟨rfl, v, ?_⟩
              have hb : l3 = bodyL (⟨4, sender, media, ntp, rtp, pkts, octs, reps, name, srcs, seqs, base, ref, count, arrs, wants⟩ : Pk) := by
                rw [HE3.out, HE2.out, HE1.out, HE0.out]
                simp [bodyL, kindL, flatU32]
              have hlb2 : lb = evenL (bodyL (⟨4, sender, media, ntp, rtp, pkts, octs, reps, name, srcs, seqs, base, ref, count, arrs, wants⟩ : Pk)) := by rw [HEB.out, hb]
              have he : lp ++ packB (⟨4, sender, media, ntp, rtp, pkts, octs, reps, name, srcs, seqs, base, ref, count, arrs, wants⟩ : Pk) = ly ++ lb := by
                unfold packB
                rw [← hlb2, HLY.out, HLX.out, ← HLW.out]
                simp [lowP, whereP]
              rw [he]
end Go.Proofs.Ytddopbbmgpnjjaa
namespace Go.Proofs.Ytddopbbmgpnjjaa
open Go.RowKit
set_option linter.unusedSimpArgs false
attribute [local go_sem] Oper.semAt_some

set_option maxRecDepth 100000 in
set_option maxHeartbeats 40000000 in
theorem write5 (I : Img) (M : List Res) (w : World) (sender : Int) (media : Int) (ntp : Int) (rtp : Int) (pkts : Int) (octs : Int) (base : Int) (ref : Int) (count : Int) (name : ByteArray) (reps : List Rp) (srcs seqs arrs : List Int) (wants : List Wn) (rA : Option Addr) (rz : Nat) (sA : Option Addr) (sz : Nat) (qA : Option Addr) (qz : Nat) (aA : Option Addr) (az : Nat) (wA : Option Addr) (wz : Nat) (cr : Cells I rA (flat repC reps)) (cs : Cells I sA (flat u32C srcs)) (cq : Cells I qA (flat u16C seqs)) (ca : Cells I aA (flat intC arrs)) (cw : Cells I wA (flat wnC wants)) (p : Nat) (v : Value) (lp : List UInt8) (hok : PkOk (⟨5, sender, media, ntp, rtp, pkts, octs, reps, name, srcs, seqs, base, ref, count, arrs, wants⟩ : Pk)) (hg : Good (⟨5, sender, media, ntp, rtp, pkts, octs, reps, name, srcs, seqs, base, ref, count, arrs, wants⟩ : Pk)) (hl0 : lp.length ≤ 70368744170000) (hqz : seqs.length ≤ qz) (hst : St I (row 5 1 v lp.length (bvs lp) :: bk p 60 #[v] :: M) w) :
    Calls Try.prog 21 #[.agg #[.int .i64 5, .int .u32 sender, .int .u32 media, .int .u64 ntp, .int .u32 rtp, .int .u32 pkts, .int .u32 octs, .slice rA reps.length rz, .string name, .slice sA srcs.length sz, .slice qA seqs.length qz, .int .u16 base, .int .u32 ref, .int .u8 count, .slice aA arrs.length az, .slice wA wants.length wz], .pointer (some ⟨p, 0, none⟩)] w (Ret I (fun v' _ M' => Wrote M p 60 (lp ++ packB (⟨5, sender, media, ntp, rtp, pkts, octs, reps, name, srcs, seqs, base, ref, count, arrs, wants⟩ : Pk)) v' M')) := by
  have hs1 := hst.alloc 51 #[.int .i64 5, .int .u32 sender, .int .u32 media, .int .u64 ntp, .int .u32 rtp, .int .u32 pkts, .int .u32 octs, .slice rA reps.length rz, .string name, .slice sA srcs.length sz, .slice qA seqs.length qz, .int .u16 base, .int .u32 ref, .int .u8 count, .slice aA arrs.length az, .slice wA wants.length wz]
  have HOK := Lib.hid hok
  obtain ⟨n1, n2, n3, n4, n5, n6⟩ := good_lens hg
  have HLOW := Lib.hid (lowP_ok hg)
  simp only [] at n1 n2 n3 n4 n5 n6
  have HCR := Lib.hid cr
  have HCS := Lib.hid cs
  have HCW := Lib.hid cw
  have HCQ := Lib.hid cq
  have HCA := Lib.hid ca
  clear cr cs cq ca cw

  have HW := Lib.hid (whereC 5 (w.alloc (.cells #[.int .i64 5, .int .u32 sender, .int .u32 media, .int .u64 ntp, .int .u32 rtp, .int .u32 pkts, .int .u32 octs, .slice rA reps.length rz, .string name, .slice sA srcs.length sz, .slice qA seqs.length qz, .int .u16 base, .int .u32 ref, .int .u8 count, .slice aA arrs.length az, .slice wA wants.length wz] 51)))
  obtain ⟨q1, hq1⟩ : ∃ q, q = w.heap.size := ⟨_, rfl⟩
  rw [← hq1] at hs1
  clear hst hok hg
  refine callsIn_wide.1 (callsIn_of_wp_marks (n := 0) Try.func21 rfl trivial (wpIn_wide.2 ?_))
  simp only [Try.ntmps21, List.size_toArray, List.length_cons, List.length_nil, Nat.reduceAdd, Nat.reduceSub, Array.replicate_succ, Array.replicate_zero, List.push_toArray, List.append_toArray, List.nil_append, List.cons_append]
  go_upto_region 1 with fail
  rw [← hq1]
  clear hq1
  generalize World.alloc w _ = W at hs1 HW ⊢
  obtain ⟨hc1, hf1, hl1⟩ := Blk.all (hs1.at 0 rfl)
  have HS0 := Lib.hid hs1
  clear hs1
  go_wp2_with fail
  go_at_call 47
  refine HW.out.mono ?_
  rintro e w2 ⟨rfl, hw⟩
  subst hw
  simp only [whereP, if_true, if_false, Int.reduceEq, Int.reduceNeg]
  clear HW
  go_upto_region 5 with fail
  have hs : St I (row 5 1 (.slice none 0 0) ([] : List UInt8).length (bvs []) :: bk W.heap.size 60 #[.slice none 0 0] :: bk q1 51 #[.int .i64 5, .int .u32 sender, .int .u32 media, .int .u64 ntp, .int .u32 rtp, .int .u32 pkts, .int .u32 octs, .slice rA reps.length rz, .string name, .slice sA srcs.length sz, .slice qA seqs.length qz, .int .u16 base, .int .u32 ref, .int .u8 count, .slice aA arrs.length az, .slice wA wants.length wz] :: row 5 1 v lp.length (bvs lp) :: bk p 60 #[v] :: M) (W.alloc (.cells #[.slice none 0 0] 60)) := (HS0.out.alloc 60 #[.slice none 0 0]).nil
  obtain ⟨B, hB⟩ : ∃ B, B = W.heap.size := ⟨_, rfl⟩
  rw [← hB] at hs ⊢
  generalize World.alloc W _ = W2 at hs ⊢
  clear hB hc1 hf1 hl1 HS0
  obtain ⟨cs1, hcs1⟩ : ∃ z : Array Value, z = #[.int .i64 5, .int .u32 sender, .int .u32 media, .int .u64 ntp, .int .u32 rtp, .int .u32 pkts, .int .u32 octs, .slice rA reps.length rz, .string name, .slice sA srcs.length sz, .slice qA seqs.length qz, .int .u16 base, .int .u32 ref, .int .u8 count, .slice aA arrs.length az, .slice wA wants.length wz] := ⟨_, rfl⟩
  rw [← hcs1] at hs
  have HC1 := Lib.hid hcs1
  clear hcs1
  obtain ⟨vb, hvb⟩ : ∃ vb : Value, vb = .slice none 0 0 := ⟨_, rfl⟩
  rw [← hvb] at hs
  clear hvb
  obtain ⟨lw, hlw⟩ : ∃ lw, lw = lp := ⟨_, rfl⟩
  rw [← hlw] at hs hl0
  have HLW := Lib.hid hlw
  clear hlw
  obtain ⟨l0, e0⟩ : ∃ z : List UInt8, z = [] := ⟨_, rfl⟩
  rw [← e0] at hs
  have HL0 := Lib.hid (show l0.length ≤ 0 from by rw [e0]; exact Nat.le_refl _)
  have HE0 := Lib.hid e0
  have HS := Lib.hid hs
  clear hs e0
  obtain ⟨hc1, hf1, hl1⟩ := Blk.all (HS.out.at 2 rfl)
  rw [HC1.out] at hc1
  obtain ⟨hcb, hfb, hlb⟩ := (show Blk _ B 60 #[_] from HS.out.at 1 rfl).one
  have HC := Lib.hid (wU32 (I := I) B 60 vb l0 sender HS.out (by have := HL0.out; omega) HOK.out.sender)
  go_wp2_with fail
  go_at_call 48
  refine HC.out.mono ?_
  clear hc1 hf1 hl1 hcb hfb hlb
  clear HS HC vb
  rintro e w2 ⟨_, _, _, rfl, _, hs, rfl, rfl, vb, rfl⟩
  obtain ⟨l1, e1⟩ : ∃ z, z = l0 ++ u32B sender := ⟨_, rfl⟩
  rw [← e1] at hs
  have HL1 := Lib.hid (show l1.length ≤ 4 from by rw [e1, List.length_append]; have := HL0.out; have : (u32B sender).length = 4 := (by first | rfl | simp); omega)
  have HE1 := Lib.hid e1
  clear e1
  have HS := Lib.hid hs
  clear hs
  obtain ⟨hc1, hf1, hl1⟩ := Blk.all (HS.out.at 2 rfl)
  rw [HC1.out] at hc1
  obtain ⟨hcb, hfb, hlb⟩ := (show Blk _ B 60 #[_] from HS.out.at 1 rfl).one
  have HC := Lib.hid (wU32 (I := I) B 60 vb l1 media HS.out (by have := HL1.out; omega) HOK.out.media)
  go_wp2_with fail
  go_at_call 48
  refine HC.out.mono ?_
  clear hc1 hf1 hl1 hcb hfb hlb
  clear HS HC vb
  rintro e w2 ⟨_, _, _, rfl, _, hs, rfl, rfl, vb, rfl⟩
  obtain ⟨l2, e2⟩ : ∃ z, z = l1 ++ u32B media := ⟨_, rfl⟩
  rw [← e2] at hs
  have HL2 := Lib.hid (show l2.length ≤ 8 from by rw [e2, List.length_append]; have := HL1.out; have : (u32B media).length = 4 := (by first | rfl | simp); omega)
  have HE2 := Lib.hid e2
  clear e2
  have HS := Lib.hid hs
  clear hs
  obtain ⟨hc1, hf1, hl1⟩ := Blk.all (HS.out.at 2 rfl)
  rw [HC1.out] at hc1
  obtain ⟨hcb, hfb, hlb⟩ := (show Blk _ B 60 #[_] from HS.out.at 1 rfl).one
  have HC := Lib.hid (pieces51 w2 qA seqs.length qz)
  go_wp2_with fail
  go_at_call 51
  refine HC.out.mono ?_
  clear hc1 hf1 hl1 hcb hfb hlb
  rintro e w3 ⟨rfl, hw⟩
  have hs := HS.out.alloc 44 #[.slice qA seqs.length qz]
  rw [← hw] at hs
  obtain ⟨PB, hPB⟩ : ∃ q, q = w2.heap.size := ⟨_, rfl⟩
  rw [← hPB] at hs ⊢
  clear hw hPB HC HS
  have HS := Lib.hid hs
  clear hs
  go_wp2_with fail
  obtain ⟨l, hl⟩ : ∃ l, l = w3.heap.size + 1 := ⟨_, rfl⟩
  obtain ⟨D, hD⟩ : ∃ D, D = w3.heap.size := ⟨_, rfl⟩
  refine range_two (α := Int × Int) (σ := PSt) okP stepP (I, l2, .slice qA seqs.length qz) (gf := 70) (lb := #[.pointer (some ⟨PB, 0, none⟩)]) 91 92 9 10 rfl (fun args w => by kernel_rfl) (fun x => .int .u16 x.1) (fun x => .int .u16 x.2) (XP (w3.heap.size + 1) w3.heap.size PB B (bk q1 51 cs1 :: row 5 1 v lw.length (bvs lw) :: bk p 60 #[v] :: M)) (fun o s W ⟨u, h⟩ => h.at 1 rfl) (fun o o' s W ⟨u, h⟩ => ⟨u, (h.swap1.putOb o').swap1⟩) (fun o => ⟨vb, (HS.out.enterLoop o).rot21⟩) ?_ ?_ (fun s => I.le s.1 ∧ s.2.1 = l2 ++ piecesB seqs) ?_ ?_
  · intro l x W K hK
    simp only [List.setIfInBounds_toArray, List.set_cons_succ, List.set_cons_zero] at hK ⊢
    gi_wp2
    exact hK
  · rintro o s x W ⟨u, hs⟩ ⟨ok1, ok2, ok3⟩
    replace hs := hs.rot23
    generalize w3.heap.size = D at hs ⊢
    have HC := Lib.hid (wU16 (I := s.1) B 60 u s.2.1 x.1 hs (by omega) ok2)
    clear hs
    simp only [List.setIfInBounds_toArray, List.set_cons_succ, List.set_cons_zero]
    gi_wp2_with fail
    refine ⟨trivial, rfl, ?_⟩
    refine (CallsIn.inRound _ (callsIn_wide.2 HC.out)).mono ?_
    rintro e w5 ⟨_, _, _, rfl, _, hs, rfl, rfl, u, rfl⟩
    have HC := Lib.hid (wU16 (I := s.1) B 60 u _ x.2 hs (by rw [List.length_append, u16B_len]; omega) ok3)
    clear hs
    gi_wp2_with fail
    refine ⟨trivial, rfl, ?_⟩
    refine (CallsIn.inRound _ (callsIn_wide.2 HC.out)).mono ?_
    rintro e w6 ⟨_, _, _, rfl, _, hs, rfl, rfl, u, rfl⟩
    rw [List.append_assoc s.2.1] at hs
    have HS := Lib.hid hs.rot32
    clear hs
    gi_wp2
    exact ⟨u, HS.out⟩
  · intro o hy W hx
    exact callsIn_wide.2 (pieces70 I (bk q1 51 cs1 :: row 5 1 v lw.length (bvs lw) :: bk p 60 #[v] :: M) _ _ PB B o l2 seqs qA qz HCQ.out hqz HOK.out.seqs (by omega) (by have := HL2.out; omega) hy W hx)
  · rintro o ⟨J0, lz, vz⟩ W ⟨hle0, hlz⟩ ⟨u, hs⟩
    simp only [] at hle0 hlz hs
    generalize w3.heap.size = D at hs ⊢
    clear HS
    have hs := hs.drop.drop.rot15
    have HCR := Lib.hid (HCR.out.mono hle0)
    have HCS := Lib.hid (HCS.out.mono hle0)
    have HCW := Lib.hid (HCW.out.mono hle0)
    have HLE0 := Lib.hid hle0
    rw [hlz] at hs
    obtain ⟨vb, hvb⟩ : ∃ z, z = u := ⟨_, rfl⟩
    rw [← hvb] at hs
    obtain ⟨l3, e3⟩ : ∃ z, z = l2 ++ piecesB seqs := ⟨_, rfl⟩
    rw [← e3] at hs
    have HL3 := Lib.hid (show l3.length ≤ 136 from by rw [e3, List.length_append]; have := HL2.out; have := piecesB_le 32 seqs n3; omega)
    have HE3 := Lib.hid e3
    clear e3
    have HS := Lib.hid hs
    clear hs
    simp only [Exit.inBlock, Exit.then]
    obtain ⟨hc1, hf1, hl1⟩ := Blk.all (HS.out.at 2 rfl)
    rw [HC1.out] at hc1
    obtain ⟨hcb, hfb, hlb⟩ := (show Blk _ B 60 #[_] from HS.out.at 1 rfl).one
    go_upto_region 47 with fail
    go_upto_region 48 with fail
    clear hc1 hf1 hl1 hcb hfb hlb
    go_loopw [160] (fun iv wr => ∃ i : Nat, i ≤ reps.length ∧ iv = .int .i64 i ∧ Hid (∃ vb, St J0 (row 5 1 vb (l3 ++ (reps.take i).flatMap repL).length (bvs (l3 ++ (reps.take i).flatMap repL)) :: bk B 60 #[vb] :: bk q1 51 cs1 :: row 5 1 v lw.length (bvs lw) :: bk p 60 #[v] :: obk D (.deferred (some [])) :: M) wr)) (fun iv _ => reps.length - (intOf iv).toNat)
    case atStart => exact ⟨0, by omega, rfl, vb, by simpa using HS.out⟩
    case round =>
      obtain ⟨i, hi, rfl, hh⟩ := hrel
      obtain ⟨vb, hs⟩ := hh.out
      have HS := Lib.hid hs
      clear hh hs
      by_cases hlt : i < reps.length
      · skip
        have hsn := fm_snoc repL reps i hlt
        obtain ⟨g, o, rfl, hcell⟩ := flat_get (s := 7) (fun _ => rfl) HCR.out (by omega) (by decide)
        have hm := HOK.out.reps _ (List.getElem_mem hlt)
        replace hcell : ∀ j, j < 7 → wr.cell? ⟨g, o + i * 7 + j, none⟩ = (repC reps[i])[j]? := fun j hj => hcell _ _ HS.out i hlt j hj
        obtain ⟨x, hxe⟩ : ∃ x, x = reps[i] := ⟨_, rfl⟩
        rw [← hxe] at hcell hm hsn
        have z0 : wr.cell? ⟨g, o + i * 7, none⟩ = some (.int .u32 x.src) := hcell 0 (by decide)
        have z1 : wr.cell? ⟨g, o + i * 7 + 1, none⟩ = some (.int .u8 x.lost) := hcell 1 (by decide)
        have z2 : wr.cell? ⟨g, o + i * 7 + 2, none⟩ = some (.int .u32 x.total) := hcell 2 (by decide)
        have z3 : wr.cell? ⟨g, o + i * 7 + 3, none⟩ = some (.int .u32 x.high) := hcell 3 (by decide)
        have z4 : wr.cell? ⟨g, o + i * 7 + 4, none⟩ = some (.int .u32 x.jit) := hcell 4 (by decide)
        have z5 : wr.cell? ⟨g, o + i * 7 + 5, none⟩ = some (.int .u32 x.last) := hcell 5 (by decide)
        have z6 : wr.cell? ⟨g, o + i * 7 + 6, none⟩ = some (.int .u32 x.delay) := hcell 6 (by decide)
        obtain ⟨lb, e1⟩ : ∃ z, z = l3 ++ (reps.take i).flatMap repL := ⟨_, rfl⟩
        have HL := Lib.hid (show lb.length ≤ 880 from by rw [e1, List.length_append]; have := HL3.out; have := fm_le (f := repL) (s := 24) (n := 31) (fun x => by first | rfl | exact repL_len x) reps i (by omega); omega)
        have hs := HS.out
        rw [← e1] at hs
        have HSN := Lib.hid (And.intro e1 hsn)
        clear HS hcell hsn hxe e1
        have HS := Lib.hid hs
        clear hs
        have hs := HS.out.grow (.cells #[.int .u32 x.src, .int .u8 x.lost, .int .u32 x.total, .int .u32 x.high, .int .u32 x.jit, .int .u32 x.last, .int .u32 x.delay] 65)
        have HC := Lib.hid (repW J0 (bk q1 51 cs1 :: row 5 1 v lw.length (bvs lw) :: bk p 60 #[v] :: obk D (.deferred (some [])) :: M) _ B 60 vb lb x hm hs (by have := HL.out; omega))
        clear hs HS hm
        go_wp2_with fail
        go_at_call 54
        refine HC.out.mono ?_
        rintro e w2 ⟨_, _, _, rfl, _, hs, rfl, rfl, vb, rfl⟩
        rw [HSN.out.1, List.append_assoc, ← HSN.out.2] at hs
        have HS := Lib.hid hs
        clear hs HC HSN
        go_wp2
        go_roundw
        case rel => exact ⟨i + 1, by omega, by go_num, vb, HS.out⟩
        case measure => simp [intOf]; omega
      · skip
        have hin : i = reps.length := by omega
        have hs := HS.out
        rw [hin, List.take_length] at hs
        subst hin
        clear HS
        obtain ⟨l4, e4⟩ : ∃ z, z = l3 ++ reps.flatMap repL := ⟨_, rfl⟩
        rw [← e4] at hs
        have HL4 := Lib.hid (show l4.length ≤ 880 from by rw [e4, List.length_append]; have := HL3.out; have := fm_len (f := repL) (s := 24) (fun x => by first | rfl | exact repL_len x) reps; omega)
        have HE4 := Lib.hid e4
        clear e4
        have HS := Lib.hid hs
        clear hs
        obtain ⟨hc1, hf1, hl1⟩ := Blk.all (HS.out.at 2 rfl)
        rw [HC1.out] at hc1
        obtain ⟨hcb, hfb, hlb⟩ := (show Blk _ B 60 #[_] from HS.out.at 1 rfl).one
        go_upto_region 53 with fail
        clear hc1 hf1 hl1 hcb hfb hlb
        go_loopw [170] (fun iv wr => ∃ i : Nat, i ≤ srcs.length ∧ iv = .int .i64 i ∧ Hid (∃ vb, St J0 (row 5 1 vb (l4 ++ (srcs.take i).flatMap u32B).length (bvs (l4 ++ (srcs.take i).flatMap u32B)) :: bk B 60 #[vb] :: bk q1 51 cs1 :: row 5 1 v lw.length (bvs lw) :: bk p 60 #[v] :: obk D (.deferred (some [])) :: M) wr)) (fun iv _ => srcs.length - (intOf iv).toNat)
        case atStart => exact ⟨0, by omega, rfl, vb, by simpa using HS.out⟩
        case round =>
          obtain ⟨i, hi, rfl, hh⟩ := hrel
          obtain ⟨vb, hs⟩ := hh.out
          have HS := Lib.hid hs
          clear hh hs
          by_cases hlt : i < srcs.length
          · skip
            have hsn := fm_snoc u32B srcs i hlt
            obtain ⟨g, o, rfl, hcell⟩ := flat_get (s := 1) (fun _ => rfl) HCS.out (by omega) (by decide)
            have hm := HOK.out.srcs _ (List.getElem_mem hlt)
            replace hcell : ∀ j, j < 1 → wr.cell? ⟨g, o + i * 1 + j, none⟩ = (u32C srcs[i])[j]? := fun j hj => hcell _ _ HS.out i hlt j hj
            obtain ⟨x, hxe⟩ : ∃ x, x = srcs[i] := ⟨_, rfl⟩
            rw [← hxe] at hcell hm hsn
            have z0 : wr.cell? ⟨g, o + i, none⟩ = some (.int .u32 x) := by have := hcell 0 (by decide); simpa using this
            obtain ⟨lb, e1⟩ : ∃ z, z = l4 ++ (srcs.take i).flatMap u32B := ⟨_, rfl⟩
            have HL := Lib.hid (show lb.length ≤ 1004 from by rw [e1, List.length_append]; have := HL4.out; have := fm_le (f := u32B) (s := 4) (n := 31) (fun x => by first | rfl | exact repL_len x) srcs i (by omega); omega)
            have hs := HS.out
            rw [← e1] at hs
            have HSN := Lib.hid (And.intro e1 hsn)
            clear HS hcell hsn hxe e1
            have HS := Lib.hid hs
            clear hs
            have HC := Lib.hid (wU32 (I := J0) B 60 vb lb x HS.out (by have := HL.out; omega) hm)
            clear HS hm
            go_wp2_with fail
            go_at_call 48
            refine HC.out.mono ?_
            rintro e w2 ⟨_, _, _, rfl, _, hs, rfl, rfl, vb, rfl⟩
            rw [HSN.out.1, List.append_assoc, ← HSN.out.2] at hs
            have HS := Lib.hid hs
            clear hs HC HSN
            go_wp2
            go_roundw
            case rel => exact ⟨i + 1, by omega, by go_num, vb, HS.out⟩
            case measure => simp [intOf]; omega
          · skip
            have hin : i = srcs.length := by omega
            have hs := HS.out
            rw [hin, List.take_length] at hs
            subst hin
            clear HS
            obtain ⟨l5, e5⟩ : ∃ z, z = l4 ++ srcs.flatMap u32B := ⟨_, rfl⟩
            rw [← e5] at hs
            have HL5 := Lib.hid (show l5.length ≤ 1004 from by rw [e5, List.length_append]; have := HL4.out; have := fm_len (f := u32B) (s := 4) (fun x => by first | rfl | exact repL_len x) srcs; omega)
            have HE5 := Lib.hid e5
            clear e5
            have HS := Lib.hid hs
            clear hs
            obtain ⟨hc1, hf1, hl1⟩ := Blk.all (HS.out.at 2 rfl)
            rw [HC1.out] at hc1
            obtain ⟨hcb, hfb, hlb⟩ := (show Blk _ B 60 #[_] from HS.out.at 1 rfl).one
            go_upto_region 58 with fail
            clear hc1 hf1 hl1 hcb hfb hlb
            go_loopw [180] (fun iv wr => ∃ i : Nat, i ≤ wants.length ∧ iv = .int .i64 i ∧ Hid (∃ vb, St J0 (row 5 1 vb (l5 ++ (wants.take i).flatMap wnL).length (bvs (l5 ++ (wants.take i).flatMap wnL)) :: bk B 60 #[vb] :: bk q1 51 cs1 :: row 5 1 v lw.length (bvs lw) :: bk p 60 #[v] :: obk D (.deferred (some [])) :: M) wr)) (fun iv _ => wants.length - (intOf iv).toNat)
            case atStart => exact ⟨0, by omega, rfl, vb, by simpa using HS.out⟩
            case round =>
              obtain ⟨i, hi, rfl, hh⟩ := hrel
              obtain ⟨vb, hs⟩ := hh.out
              have HS := Lib.hid hs
              clear hh hs
              by_cases hlt : i < wants.length
              · skip
                have hsn := fm_snoc wnL wants i hlt
                obtain ⟨g, o, rfl, hcell⟩ := flat_get (s := 2) (fun _ => rfl) HCW.out (by omega) (by decide)
                have hm := HOK.out.wants _ (List.getElem_mem hlt)
                replace hcell : ∀ j, j < 2 → wr.cell? ⟨g, o + i * 2 + j, none⟩ = (wnC wants[i])[j]? := fun j hj => hcell _ _ HS.out i hlt j hj
                obtain ⟨x, hxe⟩ : ∃ x, x = wants[i] := ⟨_, rfl⟩
                rw [← hxe] at hcell hm hsn
                have z0 : wr.cell? ⟨g, o + i * 2, none⟩ = some (.int .u32 x.src) := hcell 0 (by decide)
                have z1 : wr.cell? ⟨g, o + i * 2 + 1, none⟩ = some (.int .u8 x.seq) := hcell 1 (by decide)
                obtain ⟨lb, e1⟩ : ∃ z, z = l5 ++ (wants.take i).flatMap wnL := ⟨_, rfl⟩
                have HL := Lib.hid (show lb.length ≤ 1068 from by rw [e1, List.length_append]; have := HL5.out; have := fm_le (f := wnL) (s := 8) (n := 8) (fun x => by first | rfl | exact repL_len x) wants i (by omega); omega)
                have hs := HS.out
                rw [← e1] at hs
                have HSN := Lib.hid (And.intro e1 hsn)
                clear HS hcell hsn hxe e1
                have HS := Lib.hid hs
                clear hs
                have hs := (HS.out.alloc 68 #[.int .u32 x.src, .int .u8 x.seq]).swap2.swap1
                obtain ⟨qw, hqw⟩ : ∃ q, q = wr.heap.size := ⟨_, rfl⟩
                rw [← hqw] at hs
                have HQW := Lib.hid hqw
                clear hqw
                have HC := Lib.hid (wU32 (I := J0) (M := bk qw 68 #[.int .u32 x.src, .int .u8 x.seq] :: bk q1 51 cs1 :: row 5 1 v lw.length (bvs lw) :: bk p 60 #[v] :: obk D (.deferred (some [])) :: M) B 60 vb lb x.src hs (by have := HL.out; omega) hm.1)
                have HM := Lib.hid hm
                have hx2 := hm.2
                obtain ⟨hx3, hx4⟩ := hx2
                have hsq := hs
                clear hs HS hm
                go_upto_region 60 with fail
                rw [← HQW.out]
                obtain ⟨hx5, hx6, hx7, hx8, hx9⟩ := (show Blk _ qw 68 #[.int .u32 x.src, .int .u8 x.seq] from hsq.at 2 rfl).two
                go_wp2_with fail
                go_at_call 48
                refine HC.out.mono ?_
                rintro e w2 ⟨_, _, _, rfl, _, hs, rfl, rfl, vb, rfl⟩
                clear hx5 hx6 hx7 hx8 hx9 hsq
                obtain ⟨hx5, hx6, hx7, hx8, hx9⟩ := (show Blk _ qw 68 #[.int .u32 x.src, .int .u8 x.seq] from hs.at 2 rfl).two
                obtain ⟨lc, hlc⟩ : ∃ z, z = lb ++ u32B x.src := ⟨_, rfl⟩
                rw [← hlc] at hs
                have HC2 := Lib.hid (wU32 (I := J0) B 60 vb lc (x.seq * 16777216) hs (by rw [hlc, List.length_append, u32B_len]; have := HL.out; omega) ⟨by omega, by omega⟩)
                have HLC := Lib.hid hlc
                clear hs hlc HC
                go_wp2_with fail
                go_at_call 48
                refine HC2.out.mono ?_
                rintro e w3 ⟨_, _, _, rfl, _, hs, rfl, rfl, vb, rfl⟩
                rw [HLC.out, List.append_assoc lb] at hs
                have HC := HC2
                clear HC2 HLC
                replace hs : St J0 (row 5 1 vb (lb ++ wnL x).length (bvs (lb ++ wnL x)) :: bk B 60 #[vb] :: bk q1 51 cs1 :: row 5 1 v lw.length (bvs lw) :: bk p 60 #[v] :: obk D (.deferred (some [])) :: M) w3 := hs.swap1.swap2.drop
                clear hx5 hx6 hx7 hx8 hx9
                rw [HSN.out.1, List.append_assoc, ← HSN.out.2] at hs
                have HS := Lib.hid hs
                clear hs HC HSN
                go_wp2
                go_roundw
                case rel => exact ⟨i + 1, by omega, by go_num, vb, HS.out⟩
                case measure => simp [intOf]; omega
              · skip
                have hin : i = wants.length := by omega
                have hs := HS.out
                rw [hin, List.take_length] at hs
                subst hin
                clear HS
                obtain ⟨l6, e6⟩ : ∃ z, z = l5 ++ wants.flatMap wnL := ⟨_, rfl⟩
                rw [← e6] at hs
                have HL6 := Lib.hid (show l6.length ≤ 1068 from by rw [e6, List.length_append]; have := HL5.out; have := fm_len (f := wnL) (s := 8) (fun x => by first | rfl | exact repL_len x) wants; omega)
                have HE6 := Lib.hid e6
                clear e6
                have HS := Lib.hid hs
                clear hs
                obtain ⟨hc1, hf1, hl1⟩ := Blk.all (HS.out.at 2 rfl)
                rw [HC1.out] at hc1
                obtain ⟨hcb, hfb, hlb⟩ := (show Blk _ B 60 #[_] from HS.out.at 1 rfl).one
                have HC := Lib.hid (evenC J0 _ _ B 60 vb l6 HS.out (by have := HL6.out; omega))
                go_wp2_with fail
                go_at_call 55
                refine HC.out.mono ?_
                clear hc1 hf1 hl1 hcb hfb hlb
                clear HS HC vb
                rintro e w2 ⟨_, _, _, rfl, _, hs, rfl, rfl, vb, rfl⟩
                obtain ⟨lb, hlb⟩ : ∃ z, z = evenL l6 := ⟨_, rfl⟩
                rw [← hlb] at hs
                have HLB := Lib.hid (show lb.length ≤ 1071 from by rw [hlb]; have := HL6.out; have := evenL_le l6; omega)
                have HEB := Lib.hid hlb
                clear hlb
                have hs := hs.rot23
                have hlow := bits_or64 HLOW.out.1 HLOW.out.2
                have hlo := HLOW.out
                simp only [lowP, whereP, if_true, if_false, Int.reduceEq, Int.reduceNeg, Int.reduceLT] at hlow hlo
                obtain ⟨hlo1, hlo2⟩ := hlo
                have HC := Lib.hid (wU8 (I := J0) p 60 v lw (128 + 1) hs (by omega) (by omega))
                clear hs
                go_wp2_with fail
                go_at_call 49
                refine HC.out.mono ?_
                clear HC
                rintro e w2 ⟨_, _, _, rfl, _, hs, rfl, rfl, v, rfl⟩
                have HC := Lib.hid (wU8 (I := J0) p 60 v _ 205 hs (by rw [List.length_append]; show _ + 1 ≤ _; omega) (by decide))
                clear hs hlow hlo1 hlo2
                go_wp2_with fail
                go_at_call 49
                refine HC.out.mono ?_
                clear HC
                rintro e w2 ⟨_, _, _, rfl, _, hs, rfl, rfl, v, rfl⟩
                obtain ⟨lx, hlx⟩ : ∃ z, z = lw ++ [byteOf (128 + 1)] ++ [byteOf 205] := ⟨_, rfl⟩
                rw [← hlx] at hs
                have hlxl : lx.length = lw.length + 2 := by rw [hlx]; simp
                have HLX := Lib.hid hlx
                clear hlx
                have h5 := HLB.out
                have HC := Lib.hid (wU16 (I := J0) p 60 v lx ((lb.length / 4 : Nat) : Int) hs (by omega) ⟨by omega, by omega⟩)
                obtain ⟨A, c, rfl⟩ := own_form (show World.ownsRow _ 0 5 1 vb lb.length (bvs lb) from hs.at 2 rfl)
                obtain ⟨hcb, hfb, hlb⟩ := (show Blk _ B 60 #[_] from hs.at 3 rfl).one
                clear hs
                go_wp2_with fail
                go_at_call 52
                refine HC.out.mono ?_
                clear HC hcb hfb hlb
                rintro e w2 ⟨_, _, _, rfl, _, hs, rfl, rfl, v, rfl⟩
                have hs := hs.rot32
                obtain ⟨J, hle, hs, hA⟩ := hs.freezeRow
                have hs := hs.rot22
                obtain ⟨hcb, hfb, hlb⟩ := (show Blk _ B 60 #[_] from hs.at 2 rfl).one
                obtain ⟨ly, hly⟩ : ∃ z, z = lx ++ u16B ((lb.length / 4 : Nat) : Int) := ⟨_, rfl⟩
                rw [← hly] at hs
                have hlyl : ly.length = lx.length + 2 := by rw [hly, List.length_append, u16B_len]
                have HLY := Lib.hid hly
                have HC := Lib.hid (wBytes (I := J) p 60 v ly A c lb hs (by omega) (fun w2 N h => Byts.src (e := 5) (show Byts J A lb from hA) h Try.underlying24 c))
                have HLE := Lib.hid hle
                clear hs hly hle hA
                go_wp2_with fail
                go_at_call 50
                refine HC.out.mono ?_
                rintro e w2 ⟨_, _, _, rfl, _, hs, rfl, rfl, v, rfl⟩
                have HS := Lib.hid hs.drop23
                clear hs HC
                go_wp2
                refine ⟨by simp, .inl ⟨_, _, rfl, run_takeDeferred (show (World.heap _)[D]? = some (.deferred (some [])) from HS.out.at 2 rfl), ?_⟩⟩
                replace HS := Lib.hid (HS.out.swap2.putOb (.deferred none)).swap2.swap1.swap2.drop
                refine ⟨_, results_none rfl _ _ _, ?_⟩
                refine Ret.mk (HLE0.out.trans HLE.out) HS.out ⟨rfl, v, ?_⟩
                have hb : l6 = bodyL (⟨5, sender, media, ntp, rtp, pkts, octs, reps, name, srcs, seqs, base, ref, count, arrs, wants⟩ : Pk) := by
                  rw [HE6.out, HE5.out, HE4.out, HE3.out, HE2.out, HE1.out, HE0.out]
                  simp [bodyL, kindL, flatU32]
                have hlb2 : lb = evenL (bodyL (⟨5, sender, media, ntp, rtp, pkts, octs, reps, name, srcs, seqs, base, ref, count, arrs, wants⟩ : Pk)) := by rw [HEB.out, hb]
                have he : lp ++ packB (⟨5, sender, media, ntp, rtp, pkts, octs, reps, name, srcs, seqs, base, ref, count, arrs, wants⟩ : Pk) = ly ++ lb := by
                  unfold packB
                  rw [← hlb2, HLY.out, HLX.out, ← HLW.out]
                  simp [lowP, whereP]
                rw [he]
end Go.Proofs.Ytddopbbmgpnjjaa
namespace Go.Proofs.Ytddopbbmgpnjjaa
open Go.RowKit
set_option linter.unusedSimpArgs false
attribute [local go_sem] Oper.semAt_some

set_option maxRecDepth 100000 in
set_option maxHeartbeats 40000000 in
theorem write6 (I : Img) (M : List Res) (w : World) (sender : Int) (media : Int) (ntp : Int) (rtp : Int) (pkts : Int) (octs : Int) (base : Int) (ref : Int) (count : Int) (name : ByteArray) (reps : List Rp) (srcs seqs arrs : List Int) (wants : List Wn) (rA : Option Addr) (rz : Nat) (sA : Option Addr) (sz : Nat) (qA : Option Addr) (qz : Nat) (aA : Option Addr) (az : Nat) (wA : Option Addr) (wz : Nat) (cr : Cells I rA (flat repC reps)) (cs : Cells I sA (flat u32C srcs)) (cq : Cells I qA (flat u16C seqs)) (ca : Cells I aA (flat intC arrs)) (cw : Cells I wA (flat wnC wants)) (p : Nat) (v : Value) (lp : List UInt8) (hok : PkOk (⟨6, sender, media, ntp, rtp, pkts, octs, reps, name, srcs, seqs, base, ref, count, arrs, wants⟩ : Pk)) (hg : Good (⟨6, sender, media, ntp, rtp, pkts, octs, reps, name, srcs, seqs, base, ref, count, arrs, wants⟩ : Pk)) (hl0 : lp.length ≤ 70368744170000) (hst : St I (row 5 1 v lp.length (bvs lp) :: bk p 60 #[v] :: M) w) :
    Calls Try.prog 21 #[.agg #[.int .i64 6, .int .u32 sender, .int .u32 media, .int .u64 ntp, .int .u32 rtp, .int .u32 pkts, .int .u32 octs, .slice rA reps.length rz, .string name, .slice sA srcs.length sz, .slice qA seqs.length qz, .int .u16 base, .int .u32 ref, .int .u8 count, .slice aA arrs.length az, .slice wA wants.length wz], .pointer (some ⟨p, 0, none⟩)] w (Ret I (fun v' _ M' => Wrote M p 60 (lp ++ packB (⟨6, sender, media, ntp, rtp, pkts, octs, reps, name, srcs, seqs, base, ref, count, arrs, wants⟩ : Pk)) v' M')) := by
  have hs1 := hst.alloc 51 #[.int .i64 6, .int .u32 sender, .int .u32 media, .int .u64 ntp, .int .u32 rtp, .int .u32 pkts, .int .u32 octs, .slice rA reps.length rz, .string name, .slice sA srcs.length sz, .slice qA seqs.length qz, .int .u16 base, .int .u32 ref, .int .u8 count, .slice aA arrs.length az, .slice wA wants.length wz]
  have HOK := Lib.hid hok
  obtain ⟨n1, n2, n3, n4, n5, n6⟩ := good_lens hg
  have HLOW := Lib.hid (lowP_ok hg)
  simp only [] at n1 n2 n3 n4 n5 n6
  have HCR := Lib.hid cr
  have HCS := Lib.hid cs
  have HCW := Lib.hid cw
  have HCQ := Lib.hid cq
  have HCA := Lib.hid ca
  clear cr cs cq ca cw

  have HW := Lib.hid (whereC 6 (w.alloc (.cells #[.int .i64 6, .int .u32 sender, .int .u32 media, .int .u64 ntp, .int .u32 rtp, .int .u32 pkts, .int .u32 octs, .slice rA reps.length rz, .string name, .slice sA srcs.length sz, .slice qA seqs.length qz, .int .u16 base, .int .u32 ref, .int .u8 count, .slice aA arrs.length az, .slice wA wants.length wz] 51)))
  obtain ⟨q1, hq1⟩ : ∃ q, q = w.heap.size := ⟨_, rfl⟩
  rw [← hq1] at hs1
  clear hst hok hg
  refine callsIn_wide.1 (callsIn_of_wp_marks (n := 0) Try.func21 rfl trivial (wpIn_wide.2 ?_))
  simp only [Try.ntmps21, List.size_toArray, List.length_cons, List.length_nil, Nat.reduceAdd, Nat.reduceSub, Array.replicate_succ, Array.replicate_zero, List.push_toArray, List.append_toArray, List.nil_append, List.cons_append]
  go_upto_region 1 with fail
  rw [← hq1]
  clear hq1
  generalize World.alloc w _ = W at hs1 HW ⊢
  obtain ⟨hc1, hf1, hl1⟩ := Blk.all (hs1.at 0 rfl)
  have HS0 := Lib.hid hs1
  clear hs1
  go_wp2_with fail
  go_at_call 47
  refine HW.out.mono ?_
  rintro e w2 ⟨rfl, hw⟩
  subst hw
  simp only [whereP, if_true, if_false, Int.reduceEq, Int.reduceNeg]
  clear HW
  go_upto_region 5 with fail
  have hs : St I (row 5 1 (.slice none 0 0) ([] : List UInt8).length (bvs []) :: bk W.heap.size 60 #[.slice none 0 0] :: bk q1 51 #[.int .i64 6, .int .u32 sender, .int .u32 media, .int .u64 ntp, .int .u32 rtp, .int .u32 pkts, .int .u32 octs, .slice rA reps.length rz, .string name, .slice sA srcs.length sz, .slice qA seqs.length qz, .int .u16 base, .int .u32 ref, .int .u8 count, .slice aA arrs.length az, .slice wA wants.length wz] :: row 5 1 v lp.length (bvs lp) :: bk p 60 #[v] :: M) (W.alloc (.cells #[.slice none 0 0] 60)) := (HS0.out.alloc 60 #[.slice none 0 0]).nil
  obtain ⟨B, hB⟩ : ∃ B, B = W.heap.size := ⟨_, rfl⟩
  rw [← hB] at hs ⊢
  generalize World.alloc W _ = W2 at hs ⊢
  clear hB hc1 hf1 hl1 HS0
  obtain ⟨cs1, hcs1⟩ : ∃ z : Array Value, z = #[.int .i64 6, .int .u32 sender, .int .u32 media, .int .u64 ntp, .int .u32 rtp, .int .u32 pkts, .int .u32 octs, .slice rA reps.length rz, .string name, .slice sA srcs.length sz, .slice qA seqs.length qz, .int .u16 base, .int .u32 ref, .int .u8 count, .slice aA arrs.length az, .slice wA wants.length wz] := ⟨_, rfl⟩
  rw [← hcs1] at hs
  have HC1 := Lib.hid hcs1
  clear hcs1
  obtain ⟨vb, hvb⟩ : ∃ vb : Value, vb = .slice none 0 0 := ⟨_, rfl⟩
  rw [← hvb] at hs
  clear hvb
  obtain ⟨lw, hlw⟩ : ∃ lw, lw = lp := ⟨_, rfl⟩
  rw [← hlw] at hs hl0
  have HLW := Lib.hid hlw
  clear hlw
  obtain ⟨l0, e0⟩ : ∃ z : List UInt8, z = [] := ⟨_, rfl⟩
  rw [← e0] at hs
  have HL0 := Lib.hid (show l0.length ≤ 0 from by rw [e0]; exact Nat.le_refl _)
  have HE0 := Lib.hid e0
  have HS := Lib.hid hs
  clear hs e0
  obtain ⟨hc1, hf1, hl1⟩ := Blk.all (HS.out.at 2 rfl)
  rw [HC1.out] at hc1
  obtain ⟨hcb, hfb, hlb⟩ := (show Blk _ B 60 #[_] from HS.out.at 1 rfl).one
  have HC := Lib.hid (wU32 (I := I) B 60 vb l0 sender HS.out (by have := HL0.out; omega) HOK.out.sender)
  go_wp2_with fail
  go_at_call 48
  refine HC.out.mono ?_
  clear hc1 hf1 hl1 hcb hfb hlb
  clear HS HC vb
  rintro e w2 ⟨_, _, _, rfl, _, hs, rfl, rfl, vb, rfl⟩
  obtain ⟨l1, e1⟩ : ∃ z, z = l0 ++ u32B sender := ⟨_, rfl⟩
  rw [← e1] at hs
  have HL1 := Lib.hid (show l1.length ≤ 4 from by rw [e1, List.length_append]; have := HL0.out; have : (u32B sender).length = 4 := (by first | rfl | simp); omega)
  have HE1 := Lib.hid e1
  clear e1
  have HS := Lib.hid hs
  clear hs
  obtain ⟨hc1, hf1, hl1⟩ := Blk.all (HS.out.at 2 rfl)
  rw [HC1.out] at hc1
  obtain ⟨hcb, hfb, hlb⟩ := (show Blk _ B 60 #[_] from HS.out.at 1 rfl).one
  have HC := Lib.hid (wU32 (I := I) B 60 vb l1 media HS.out (by have := HL1.out; omega) HOK.out.media)
  go_wp2_with fail
  go_at_call 48
  refine HC.out.mono ?_
  clear hc1 hf1 hl1 hcb hfb hlb
  clear HS HC vb
  rintro e w2 ⟨_, _, _, rfl, _, hs, rfl, rfl, vb, rfl⟩
  obtain ⟨l2, e2⟩ : ∃ z, z = l1 ++ u32B media := ⟨_, rfl⟩
  rw [← e2] at hs
  have HL2 := Lib.hid (show l2.length ≤ 8 from by rw [e2, List.length_append]; have := HL1.out; have : (u32B media).length = 4 := (by first | rfl | simp); omega)
  have HE2 := Lib.hid e2
  clear e2
  have HS := Lib.hid hs
  clear hs
  obtain ⟨hc1, hf1, hl1⟩ := Blk.all (HS.out.at 2 rfl)
  rw [HC1.out] at hc1
  obtain ⟨hcb, hfb, hlb⟩ := (show Blk _ B 60 #[_] from HS.out.at 1 rfl).one
  have HC := Lib.hid (wU16 (I := I) B 60 vb l2 base HS.out (by have := HL2.out; omega) HOK.out.base)
  go_wp2_with fail
  go_at_call 52
  refine HC.out.mono ?_
  clear hc1 hf1 hl1 hcb hfb hlb
  clear HS HC vb
  rintro e w2 ⟨_, _, _, rfl, _, hs, rfl, rfl, vb, rfl⟩
  obtain ⟨l3, e3⟩ : ∃ z, z = l2 ++ u16B base := ⟨_, rfl⟩
  rw [← e3] at hs
  have HL3 := Lib.hid (show l3.length ≤ 10 from by rw [e3, List.length_append]; have := HL2.out; have : (u16B base).length = 2 := (by first | rfl | simp); omega)
  have HE3 := Lib.hid e3
  clear e3
  have HS := Lib.hid hs
  clear hs
  obtain ⟨hc1, hf1, hl1⟩ := Blk.all (HS.out.at 2 rfl)
  rw [HC1.out] at hc1
  obtain ⟨hcb, hfb, hlb⟩ := (show Blk _ B 60 #[_] from HS.out.at 1 rfl).one
  have hal : (arrs.length : Int) < 65536 := by omega
  have HC := Lib.hid (wU16 (I := I) B 60 vb l3 arrs.length HS.out (by have := HL3.out; omega) ⟨by omega, by omega⟩)
  go_wp2_with fail
  go_at_call 52
  refine HC.out.mono ?_
  clear hc1 hf1 hl1 hcb hfb hlb
  clear HS HC vb
  rintro e w2 ⟨_, _, _, rfl, _, hs, rfl, rfl, vb, rfl⟩
  obtain ⟨l4, e4⟩ : ∃ z, z = l3 ++ u16B arrs.length := ⟨_, rfl⟩
  rw [← e4] at hs
  have HL4 := Lib.hid (show l4.length ≤ 12 from by rw [e4, List.length_append]; have := HL3.out; have : (u16B arrs.length).length = 2 := (by first | rfl | simp); omega)
  have HE4 := Lib.hid e4
  clear e4
  have HS := Lib.hid hs
  clear hs
  obtain ⟨hc1, hf1, hl1⟩ := Blk.all (HS.out.at 2 rfl)
  rw [HC1.out] at hc1
  obtain ⟨hcb, hfb, hlb⟩ := (show Blk _ B 60 #[_] from HS.out.at 1 rfl).one
  clear hal
  have hrc := or_ref HOK.out.ref HOK.out.count
  simp only [] at hrc
  obtain ⟨hrf1, hrf2⟩ : 0 ≤ ref ∧ ref ≤ 16777215 := HOK.out.ref
  obtain ⟨hct1, hct2⟩ : 0 ≤ count ∧ count ≤ 255 := HOK.out.count
  have HC := Lib.hid (wU32 (I := I) B 60 vb l4 (ref * 256 + count) HS.out (by have := HL4.out; omega) ⟨by omega, by omega⟩)
  go_wp2_with fail
  go_at_call 48
  refine HC.out.mono ?_
  clear hc1 hf1 hl1 hcb hfb hlb
  clear HS HC vb
  rintro e w2 ⟨_, _, _, rfl, _, hs, rfl, rfl, vb, rfl⟩
  obtain ⟨l5, e5⟩ : ∃ z, z = l4 ++ u32B (ref * 256 + count) := ⟨_, rfl⟩
  rw [← e5] at hs
  have HL5 := Lib.hid (show l5.length ≤ 16 from by rw [e5, List.length_append]; have := HL4.out; have : (u32B (ref * 256 + count)).length = 4 := (by first | rfl | simp); omega)
  have HE5 := Lib.hid e5
  clear e5
  have HS := Lib.hid hs
  clear hs
  obtain ⟨hc1, hf1, hl1⟩ := Blk.all (HS.out.at 2 rfl)
  rw [HC1.out] at hc1
  obtain ⟨hcb, hfb, hlb⟩ := (show Blk _ B 60 #[_] from HS.out.at 1 rfl).one
  clear hrc hrf1 hrf2 hct1 hct2
  go_upto_region 33 with fail
  have hs := ((HS.out.alloc 60 #[.slice none 0 0]).alloc 3 #[.int .i64 0]).alloc 42 #[.int .u16 0]
  simp only [World.size_alloc] at hs
  generalize hF : w2.heap.size = F at hs ⊢
  generalize World.alloc _ (Obj.cells #[.int .u16 0] 42) = w3 at hs ⊢
  obtain ⟨NB, hNB⟩ : ∃ z, z = F + 1 := ⟨_, rfl⟩
  rw [← hNB] at hs ⊢
  obtain ⟨CB, hCB⟩ : ∃ z, z = NB + 1 := ⟨_, rfl⟩
  rw [← hCB] at hs ⊢
  clear hF hNB hCB HS
  have HC := Lib.hid (marks53 w3 aA arrs.length az)
  have hs2 := hs.alloc 48 #[.slice aA arrs.length az]
  clear hc1 hf1 hl1 hcb hfb hlb
  obtain ⟨hc1, hf1, hl1⟩ := Blk.all (hs.at 5 rfl)
  rw [HC1.out] at hc1
  go_wp2_with fail
  go_at_call 53
  refine HC.out.mono ?_
  rintro e w4 ⟨rfl, hw⟩
  rw [← hw] at hs2
  generalize w3.heap.size = PB at hs2 ⊢
  clear hw HC hs hc1 hf1 hl1
  have hs : St I (row 5 1 vb (l5 ++ ms0.mks).length (bvs (l5 ++ ms0.mks)) :: bk B 60 #[vb] :: row 5 1 (.slice none 0 0) ms0.far.length (bvs ms0.far) :: bk F 60 #[.slice none 0 0] :: bk NB 3 #[.int .i64 ms0.n] :: bk CB 42 #[.int .u16 ms0.ch] :: bk PB 48 #[.slice aA arrs.length az] :: bk q1 51 cs1 :: row 5 1 v lw.length (bvs lw) :: bk p 60 #[v] :: M) w4 := by rw [show l5 ++ ms0.mks = l5 from List.append_nil _]; exact hs2.nil.ord7
  have HS := Lib.hid hs
  clear hs hs2
  go_wp2_with fail
  refine range_two (α := Int × Int) (σ := Ms) (okM arrs.length) (stepM arrs.length) ms0 (gf := 71) (lb := #[.pointer (some ⟨PB, 0, none⟩)]) 118 119 14 15 rfl (fun args w => by kernel_rfl) (fun x => .int .i64 x.1) (fun x => .int .i64 x.2) (XM I aA arrs.length az l5 (w4.heap.size + 1) w4.heap.size PB B F NB CB (bk q1 51 cs1 :: row 5 1 v lw.length (bvs lw) :: bk p 60 #[v] :: M)) (fun o s W ⟨u, uf, h⟩ => h.at 7 rfl) (fun o o' s W ⟨u, uf, h⟩ => ⟨u, uf, (h.up7.putOb o').dn7⟩) (fun o => ⟨vb, _, (HS.out.enterLoop o).rot27⟩) ?_ ?_ (fun s => s = arrsM arrs) ?_ ?_
  · intro l x W K hK
    simp only [List.setIfInBounds_toArray, List.set_cons_succ, List.set_cons_zero] at hK ⊢
    gi_wp2
    exact hK
  · rintro o s ⟨m, a⟩ W ⟨u, uf, hs⟩ ⟨ok1, ok2, ok3, ⟨ok4, ok5⟩, ok6, ok7⟩
    simp only [] at ok6 ok7 ⊢
    generalize w4.heap.size = D at hs ⊢
    simp only [List.setIfInBounds_toArray, List.set_cons_succ, List.set_cons_zero]
    obtain ⟨hcN, hfN, hlN⟩ := (show Blk _ NB 3 #[_] from hs.at 4 rfl).one
    obtain ⟨hcC, hfC, hlC⟩ := (show Blk _ CB 42 #[_] from hs.at 5 rfl).one
    have hne : CB ≠ NB := by intro e; have h := hs.at 4 rfl; have h2 := hs.at 5 rfl; rw [e] at h2; exact absurd ((show W.heap[NB]? = _ from h).symm.trans (show W.heap[NB]? = _ from h2)) (by simp)
    have hmo : Try.prog.follows .mixedOrders = true := by kernel_rfl
    obtain ⟨d, hd⟩ : ∃ d : Int, d = (s.n : Int) % 7 := ⟨_, rfl⟩
    have htm : (s.n : Int).tmod 7 = d := by rw [Int.tmod_eq_emod_of_nonneg (by omega), hd]
    obtain ⟨hd1, hd2⟩ : 0 ≤ d ∧ d ≤ 6 := by omega
    have HD := Lib.hid hd
    clear hd
    have hw1 : IntKind.i64.wrap (2 * d) = 2 * d := wrap_i64 (by omega) (by omega)
    have hw2 : IntKind.i64.wrap (12 - 2 * d) = 12 - 2 * d := wrap_i64 (by omega) (by omega)
    have hw3 : IntKind.u16.wrap m = m := by rw [u16_mod]; omega
    have hm1 : 0 ≤ 12 - 2 * d := by omega
    have HS := Lib.hid hs
    clear hs
    gi_wp2_with fail
    refine region_last_round (S := (fun w' => w'.cell? ⟨NB, 0, none⟩ = some (.int .i64 s.n) ∧ w'.cell? ⟨CB, 0, none⟩ = some (.int .u16 s.ch))) (by kernel_rfl) (by kernel_rfl) (by (try dsimp only); exact ⟨hcN, hcC⟩) (fun hHeld => ?_)
    refine wpAnyL_take (i := 0) 8 (oi := _) (v := ?_) rfl (by kernel_rfl) (by kernel_rfl) (by kernel_rfl) (by kernel_rfl) (fun _ _ _ h => h) (Or.inl ⟨by rfl, ?_⟩) (by assumption) ?_
    rotate_left
    · (intro w hSw; (try dsimp only at hSw); go_simp; try with_reducible rfl)
    try simp only [Act.put, List.getElem_toArray, List.getElem_cons_zero, List.getElem_cons_succ, List.setIfInBounds_toArray, List.set_cons_zero, List.set_cons_succ]
    refine wpAnyL_take (i := 1) 2 (oi := _) (v := ?_) rfl (by kernel_rfl) (by kernel_rfl) (by kernel_rfl) (by kernel_rfl) (fun _ _ _ h => h) (Or.inl ⟨by rfl, ?_⟩) (by assumption) ?_
    rotate_left
    · (intro w hSw; (try dsimp only at hSw); go_simp; try with_reducible rfl)
    try simp only [Act.put, List.getElem_toArray, List.getElem_cons_zero, List.getElem_cons_succ, List.setIfInBounds_toArray, List.set_cons_zero, List.set_cons_succ]
    refine wpAnyL_take (i := 2) 7 (oi := _) (v := ?_) rfl (by kernel_rfl) (by kernel_rfl) (by kernel_rfl) (by kernel_rfl) (fun _ _ _ h => h) (Or.inl ⟨by rfl, ?_⟩) (by assumption) ?_
    rotate_left
    · (intro w hSw; (try dsimp only at hSw); go_simp; try with_reducible rfl)
    try simp only [Act.put, List.getElem_toArray, List.getElem_cons_zero, List.getElem_cons_succ, List.setIfInBounds_toArray, List.set_cons_zero, List.set_cons_succ]
    refine wpAnyL_take (i := 3) 4 (oi := _) (v := ?_) rfl (by kernel_rfl) (by kernel_rfl) (by kernel_rfl) (by kernel_rfl) (fun _ _ _ h => h) (Or.inl ⟨by rfl, ?_⟩) (by assumption) ?_
    rotate_left
    · (intro w hSw; (try dsimp only at hSw); go_simp; try with_reducible rfl)
    try simp only [Act.put, List.getElem_toArray, List.getElem_cons_zero, List.getElem_cons_succ, List.setIfInBounds_toArray, List.set_cons_zero, List.set_cons_succ]
    refine wpAnyL_take (i := 4) 5 (oi := _) (v := ?_) rfl (by kernel_rfl) (by kernel_rfl) (by kernel_rfl) (by kernel_rfl) (fun _ _ _ h => h) (Or.inl ⟨by rfl, ?_⟩) (by assumption) ?_
    rotate_left
    · (intro w hSw; (try dsimp only at hSw); go_simp; try with_reducible rfl)
    try simp only [Act.put, List.getElem_toArray, List.getElem_cons_zero, List.getElem_cons_succ, List.setIfInBounds_toArray, List.set_cons_zero, List.set_cons_succ]
    refine wpAnyL_take (i := 5) 6 (oi := _) (v := ?_) rfl (by kernel_rfl) (by kernel_rfl) (by kernel_rfl) (by kernel_rfl) (fun _ _ _ h => h) (Or.inl ⟨by rfl, ?_⟩) (by assumption) ?_
    rotate_left
    · (intro w hSw; (try dsimp only at hSw); go_simp; try with_reducible rfl)
    try simp only [Act.put, List.getElem_toArray, List.getElem_cons_zero, List.getElem_cons_succ, List.setIfInBounds_toArray, List.set_cons_zero, List.set_cons_succ]
    refine wpAnyL_take (i := 6) 7 (oi := _) (v := ?_) rfl (by kernel_rfl) (by kernel_rfl) (by kernel_rfl) (by kernel_rfl) (fun _ _ _ h => h) (Or.inl ⟨by rfl, ?_⟩) (by assumption) ?_
    rotate_left
    · (intro w hSw; (try dsimp only at hSw); go_simp; try with_reducible rfl)
    try simp only [Act.put, List.getElem_toArray, List.getElem_cons_zero, List.getElem_cons_succ, List.setIfInBounds_toArray, List.set_cons_zero, List.set_cons_succ]
    refine wpAnyL_take (i := 7) 8 (oi := _) (v := ?_) rfl (by kernel_rfl) (by kernel_rfl) (by kernel_rfl) (by kernel_rfl) (fun _ _ _ h => h) (Or.inl ⟨by rfl, ?_⟩) (by assumption) ?_
    rotate_left
    · (intro w hSw; (try dsimp only at hSw); go_simp; try with_reducible rfl)
    try simp only [Act.put, List.getElem_toArray, List.getElem_cons_zero, List.getElem_cons_succ, List.setIfInBounds_toArray, List.set_cons_zero, List.set_cons_succ]
    refine wpAnyL_take (i := 8) 9 (oi := _) (v := ?_) rfl (by kernel_rfl) (by kernel_rfl) (by kernel_rfl) (by kernel_rfl) (fun _ _ _ h => h) (Or.inl ⟨by rfl, ?_⟩) (by assumption) ?_
    rotate_left
    · (intro w hSw; (try dsimp only at hSw); go_simp; try with_reducible rfl)
    try simp only [Act.put, List.getElem_toArray, List.getElem_cons_zero, List.getElem_cons_succ, List.setIfInBounds_toArray, List.set_cons_zero, List.set_cons_succ]
    refine wpAnyL_last (i := 9) (o := _) (by kernel_rfl) rfl (by kernel_rfl) (by kernel_rfl) (fun K hK => ?_)
    go_simp
    try clear hHeld
    refine hK.out _ _ ?_
    clear hK K
    try simp only [Act.put, List.getElem_toArray, List.getElem_cons_zero, List.getElem_cons_succ, List.setIfInBounds_toArray, List.set_cons_zero, List.set_cons_succ]
    simp only [roundQ, Exit.then]
    have hch : bits BinOp.or IntKind.u16 s.ch (IntKind.u16.wrap (m * 2 ^ (12 - 2 * d).toNat)) = chM s m := by unfold chM; rw [show (12 - 2 * d).toNat = 12 - 2 * (s.n % 7) from by have := HD.out; omega]
    rw [hch]
    have hs := (HS.out.set5 0 (.int .u16 (chM s m))).drew
    simp only [List.setIfInBounds_toArray, List.set_cons_zero] at hs
    generalize World.drew _ = W1 at hs ⊢
    clear hcN hfN hlN hcC hfC hlC HS hch
    have HS := Lib.hid hs
    clear hs
    obtain ⟨hcN, hfN, hlN⟩ := (show Blk _ NB 3 #[_] from HS.out.at 4 rfl).one
    obtain ⟨hcC, hfC, hlC⟩ := (show Blk _ CB 42 #[_] from HS.out.at 5 rfl).one
    obtain ⟨d2, hd2⟩ : ∃ d2 : Int, d2 = ((s.n : Int) + 1) % 7 := ⟨_, rfl⟩
    have htm2 : ((s.n : Int) + 1).tmod 7 = d2 := by rw [Int.tmod_eq_emod_of_nonneg (by omega), hd2]
    have hwn : IntKind.i64.wrap ((s.n : Int) + 1) = (s.n : Int) + 1 := wrap_i64 (by omega) (by omega)
    have hu8 := u8_mod a
    have hu16 := u16_mod a
    have HD2 := Lib.hid hd2
    clear hd2 hw1 hw2 hw3 hm1 htm hd1 HD
    have HOK5 := Lib.hid (And.intro ok1 (And.intro ok2 (And.intro ok3 (And.intro ok4 ok5))))
    have hmm : m = 0 ∨ m = 1 ∨ m = 2 := by omega
    rcases hmm with rfl | rfl | rfl
    · by_cases h7 : d2 = 0
      · skip
        have hq : (d2 == 0) = true := by rw [h7]; rfl
        have hfu : fullM arrs.length s = true := by unfold fullM; have := HD2.out; rw [decide_eq_true (p := (s.n + 1) % 7 = 0) (by omega)]; rfl
        have HFU := Lib.hid hfu
        clear hfu
        obtain ⟨hc1, hf1, hl1⟩ := Blk.all (HS.out.at 9 rfl)
        rw [HC1.out] at hc1
        have hs := HS.out.set4 0 (.int .i64 ((s.n : Int) + 1))
        simp only [List.setIfInBounds_toArray, List.set_cons_zero] at hs
        clear HS
        have HC := Lib.hid (wU16 (I := I) B 60 u (l5 ++ s.mks) (bits BinOp.or IntKind.u16 49152 (chM s 0)) hs (by have h1 := HOK5.out; have := HL5.out; rw [List.length_append]; omega) (bits_u16 _ _ _ rfl))
        clear hs
        gi_wp2_with fail
        refine ⟨trivial, rfl, ?_⟩
        refine (CallsIn.inRound _ (callsIn_wide.2 HC.out)).mono ?_
        clear HC hc1 hf1 hl1 hcN hfN hlN hcC hfC hlC
        rintro e w5 ⟨_, _, _, rfl, _, hs, rfl, rfl, u, rfl⟩
        obtain ⟨hcC, hfC, hlC⟩ := (show Blk _ CB 42 #[_] from hs.at 5 rfl).one
        have hs := hs.set5 0 (.int .u16 0)
        simp only [List.setIfInBounds_toArray, List.set_cons_zero] at hs
        have HS := Lib.hid hs
        clear hs
        gi_wp2
        have hs := HS.out
        have e : stepM arrs.length s (0, a) = ⟨s.mks ++ u16B (bits BinOp.or IntKind.u16 49152 (chM s 0)), s.far, s.n + 1, 0⟩ := by unfold stepM; rw [HFU.out]; rfl
        rw [List.append_assoc l5] at hs
        refine ⟨u, uf, ?_⟩
        rw [e]
        exact hs
      · by_cases hN : (s.n : Int) + 1 = arrs.length
        · skip
          have hq : (d2 == 0) = false := beq_eq_false_iff_ne.2 h7
          have hq2 : (((s.n : Int) + 1) == (arrs.length : Int)) = true := beq_iff_eq.2 hN
          have hfu : fullM arrs.length s = true := by unfold fullM; rw [decide_eq_true (p := s.n + 1 = arrs.length) (by omega), Bool.or_true]
          clear hN
          have HFU := Lib.hid hfu
          clear hfu
          obtain ⟨hc1, hf1, hl1⟩ := Blk.all (HS.out.at 9 rfl)
          rw [HC1.out] at hc1
          have hs := HS.out.set4 0 (.int .i64 ((s.n : Int) + 1))
          simp only [List.setIfInBounds_toArray, List.set_cons_zero] at hs
          clear HS
          have HC := Lib.hid (wU16 (I := I) B 60 u (l5 ++ s.mks) (bits BinOp.or IntKind.u16 49152 (chM s 0)) hs (by have h1 := HOK5.out; have := HL5.out; rw [List.length_append]; omega) (bits_u16 _ _ _ rfl))
          clear hs
          gi_wp2_with fail
          refine ⟨trivial, rfl, ?_⟩
          refine (CallsIn.inRound _ (callsIn_wide.2 HC.out)).mono ?_
          clear HC hc1 hf1 hl1 hcN hfN hlN hcC hfC hlC
          rintro e w5 ⟨_, _, _, rfl, _, hs, rfl, rfl, u, rfl⟩
          obtain ⟨hcC, hfC, hlC⟩ := (show Blk _ CB 42 #[_] from hs.at 5 rfl).one
          have hs := hs.set5 0 (.int .u16 0)
          simp only [List.setIfInBounds_toArray, List.set_cons_zero] at hs
          have HS := Lib.hid hs
          clear hs
          gi_wp2
          have hs := HS.out
          have e : stepM arrs.length s (0, a) = ⟨s.mks ++ u16B (bits BinOp.or IntKind.u16 49152 (chM s 0)), s.far, s.n + 1, 0⟩ := by unfold stepM; rw [HFU.out]; rfl
          rw [List.append_assoc l5] at hs
          refine ⟨u, uf, ?_⟩
          rw [e]
          exact hs
        · skip
          have hq : (d2 == 0) = false := beq_eq_false_iff_ne.2 h7
          have hq2 : (((s.n : Int) + 1) == (arrs.length : Int)) = false := beq_eq_false_iff_ne.2 hN
          have hfu : fullM arrs.length s = false := by unfold fullM; have := HD2.out; rw [decide_eq_false (p := (s.n + 1) % 7 = 0) (by omega), decide_eq_false (p := s.n + 1 = arrs.length) (by omega)]; rfl
          have HFU := Lib.hid hfu
          clear hfu
          obtain ⟨hc1, hf1, hl1⟩ := Blk.all (HS.out.at 9 rfl)
          rw [HC1.out] at hc1
          have hs := HS.out.set4 0 (.int .i64 ((s.n : Int) + 1))
          simp only [List.setIfInBounds_toArray, List.set_cons_zero] at hs
          clear HS
          have HS := Lib.hid hs
          clear hs
          gi_wp2
          have hs := HS.out
          have e : stepM arrs.length s (0, a) = ⟨s.mks, s.far, s.n + 1, chM s 0⟩ := by unfold stepM; rw [HFU.out]; rfl
          refine ⟨u, uf, ?_⟩
          rw [e]
          exact hs
    · by_cases h7 : d2 = 0
      · skip
        have hq : (d2 == 0) = true := by rw [h7]; rfl
        have hfu : fullM arrs.length s = true := by unfold fullM; have := HD2.out; rw [decide_eq_true (p := (s.n + 1) % 7 = 0) (by omega)]; rfl
        have HFU := Lib.hid hfu
        clear hfu
        obtain ⟨hc1, hf1, hl1⟩ := Blk.all (HS.out.at 9 rfl)
        rw [HC1.out] at hc1
        have hs := HS.out.set4 0 (.int .i64 ((s.n : Int) + 1))
        simp only [List.setIfInBounds_toArray, List.set_cons_zero] at hs
        clear HS
        have HC := Lib.hid (wU16 (I := I) B 60 u (l5 ++ s.mks) (bits BinOp.or IntKind.u16 49152 (chM s 1)) hs (by have h1 := HOK5.out; have := HL5.out; rw [List.length_append]; omega) (bits_u16 _ _ _ rfl))
        clear hs
        gi_wp2_with fail
        refine ⟨trivial, rfl, ?_⟩
        refine (CallsIn.inRound _ (callsIn_wide.2 HC.out)).mono ?_
        clear HC hc1 hf1 hl1 hcN hfN hlN hcC hfC hlC
        rintro e w5 ⟨_, _, _, rfl, _, hs, rfl, rfl, u, rfl⟩
        obtain ⟨hcC, hfC, hlC⟩ := (show Blk _ CB 42 #[_] from hs.at 5 rfl).one
        have hs := hs.set5 0 (.int .u16 0)
        simp only [List.setIfInBounds_toArray, List.set_cons_zero] at hs
        have hs := hs.rot22
        have HC := Lib.hid (wU8 (I := I) F 60 uf s.far (a % 256) hs (by have h1 := HOK5.out; omega) (by omega))
        clear hs
        gi_wp2_with fail
        refine ⟨trivial, rfl, ?_⟩
        refine (CallsIn.inRound _ (callsIn_wide.2 HC.out)).mono ?_
        clear HC
        rintro e w6 ⟨_, _, _, rfl, _, hs, rfl, rfl, uf, rfl⟩
        have hs := hs.rot22
        have HS := Lib.hid hs
        clear hs
        gi_wp2
        have hs := HS.out
        have e : stepM arrs.length s (1, a) = ⟨s.mks ++ u16B (bits BinOp.or IntKind.u16 49152 (chM s 1)), s.far ++ [byteOf (a % 256)], s.n + 1, 0⟩ := by unfold stepM; rw [HFU.out]; rfl
        rw [List.append_assoc l5] at hs
        refine ⟨u, uf, ?_⟩
        rw [e]
        exact hs
      · by_cases hN : (s.n : Int) + 1 = arrs.length
        · skip
          have hq : (d2 == 0) = false := beq_eq_false_iff_ne.2 h7
          have hq2 : (((s.n : Int) + 1) == (arrs.length : Int)) = true := beq_iff_eq.2 hN
          have hfu : fullM arrs.length s = true := by unfold fullM; rw [decide_eq_true (p := s.n + 1 = arrs.length) (by omega), Bool.or_true]
          clear hN
          have HFU := Lib.hid hfu
          clear hfu
          obtain ⟨hc1, hf1, hl1⟩ := Blk.all (HS.out.at 9 rfl)
          rw [HC1.out] at hc1
          have hs := HS.out.set4 0 (.int .i64 ((s.n : Int) + 1))
          simp only [List.setIfInBounds_toArray, List.set_cons_zero] at hs
          clear HS
          have HC := Lib.hid (wU16 (I := I) B 60 u (l5 ++ s.mks) (bits BinOp.or IntKind.u16 49152 (chM s 1)) hs (by have h1 := HOK5.out; have := HL5.out; rw [List.length_append]; omega) (bits_u16 _ _ _ rfl))
          clear hs
          gi_wp2_with fail
          refine ⟨trivial, rfl, ?_⟩
          refine (CallsIn.inRound _ (callsIn_wide.2 HC.out)).mono ?_
          clear HC hc1 hf1 hl1 hcN hfN hlN hcC hfC hlC
          rintro e w5 ⟨_, _, _, rfl, _, hs, rfl, rfl, u, rfl⟩
          obtain ⟨hcC, hfC, hlC⟩ := (show Blk _ CB 42 #[_] from hs.at 5 rfl).one
          have hs := hs.set5 0 (.int .u16 0)
          simp only [List.setIfInBounds_toArray, List.set_cons_zero] at hs
          have hs := hs.rot22
          have HC := Lib.hid (wU8 (I := I) F 60 uf s.far (a % 256) hs (by have h1 := HOK5.out; omega) (by omega))
          clear hs
          gi_wp2_with fail
          refine ⟨trivial, rfl, ?_⟩
          refine (CallsIn.inRound _ (callsIn_wide.2 HC.out)).mono ?_
          clear HC
          rintro e w6 ⟨_, _, _, rfl, _, hs, rfl, rfl, uf, rfl⟩
          have hs := hs.rot22
          have HS := Lib.hid hs
          clear hs
          gi_wp2
          have hs := HS.out
          have e : stepM arrs.length s (1, a) = ⟨s.mks ++ u16B (bits BinOp.or IntKind.u16 49152 (chM s 1)), s.far ++ [byteOf (a % 256)], s.n + 1, 0⟩ := by unfold stepM; rw [HFU.out]; rfl
          rw [List.append_assoc l5] at hs
          refine ⟨u, uf, ?_⟩
          rw [e]
          exact hs
        · skip
          have hq : (d2 == 0) = false := beq_eq_false_iff_ne.2 h7
          have hq2 : (((s.n : Int) + 1) == (arrs.length : Int)) = false := beq_eq_false_iff_ne.2 hN
          have hfu : fullM arrs.length s = false := by unfold fullM; have := HD2.out; rw [decide_eq_false (p := (s.n + 1) % 7 = 0) (by omega), decide_eq_false (p := s.n + 1 = arrs.length) (by omega)]; rfl
          have HFU := Lib.hid hfu
          clear hfu
          obtain ⟨hc1, hf1, hl1⟩ := Blk.all (HS.out.at 9 rfl)
          rw [HC1.out] at hc1
          have hs := HS.out.set4 0 (.int .i64 ((s.n : Int) + 1))
          simp only [List.setIfInBounds_toArray, List.set_cons_zero] at hs
          clear HS
          have hs := hs.rot22
          have HC := Lib.hid (wU8 (I := I) F 60 uf s.far (a % 256) hs (by have h1 := HOK5.out; omega) (by omega))
          clear hs
          gi_wp2_with fail
          refine ⟨trivial, rfl, ?_⟩
          refine (CallsIn.inRound _ (callsIn_wide.2 HC.out)).mono ?_
          clear HC
          rintro e w6 ⟨_, _, _, rfl, _, hs, rfl, rfl, uf, rfl⟩
          have hs := hs.rot22
          have HS := Lib.hid hs
          clear hs
          gi_wp2
          have hs := HS.out
          have e : stepM arrs.length s (1, a) = ⟨s.mks, s.far ++ [byteOf (a % 256)], s.n + 1, chM s 1⟩ := by unfold stepM; rw [HFU.out]; rfl
          refine ⟨u, uf, ?_⟩
          rw [e]
          exact hs
    · by_cases h7 : d2 = 0
      · skip
        have hq : (d2 == 0) = true := by rw [h7]; rfl
        have hfu : fullM arrs.length s = true := by unfold fullM; have := HD2.out; rw [decide_eq_true (p := (s.n + 1) % 7 = 0) (by omega)]; rfl
        have HFU := Lib.hid hfu
        clear hfu
        obtain ⟨hc1, hf1, hl1⟩ := Blk.all (HS.out.at 9 rfl)
        rw [HC1.out] at hc1
        have hs := HS.out.set4 0 (.int .i64 ((s.n : Int) + 1))
        simp only [List.setIfInBounds_toArray, List.set_cons_zero] at hs
        clear HS
        have HC := Lib.hid (wU16 (I := I) B 60 u (l5 ++ s.mks) (bits BinOp.or IntKind.u16 49152 (chM s 2)) hs (by have h1 := HOK5.out; have := HL5.out; rw [List.length_append]; omega) (bits_u16 _ _ _ rfl))
        clear hs
        gi_wp2_with fail
        refine ⟨trivial, rfl, ?_⟩
        refine (CallsIn.inRound _ (callsIn_wide.2 HC.out)).mono ?_
        clear HC hc1 hf1 hl1 hcN hfN hlN hcC hfC hlC
        rintro e w5 ⟨_, _, _, rfl, _, hs, rfl, rfl, u, rfl⟩
        obtain ⟨hcC, hfC, hlC⟩ := (show Blk _ CB 42 #[_] from hs.at 5 rfl).one
        have hs := hs.set5 0 (.int .u16 0)
        simp only [List.setIfInBounds_toArray, List.set_cons_zero] at hs
        have hs := hs.rot22
        have HC := Lib.hid (wU16 (I := I) F 60 uf s.far (a % 65536) hs (by have h1 := HOK5.out; omega) (by omega))
        clear hs
        gi_wp2_with fail
        refine ⟨trivial, rfl, ?_⟩
        refine (CallsIn.inRound _ (callsIn_wide.2 HC.out)).mono ?_
        clear HC
        rintro e w6 ⟨_, _, _, rfl, _, hs, rfl, rfl, uf, rfl⟩
        have hs := hs.rot22
        have HS := Lib.hid hs
        clear hs
        gi_wp2
        have hs := HS.out
        have e : stepM arrs.length s (2, a) = ⟨s.mks ++ u16B (bits BinOp.or IntKind.u16 49152 (chM s 2)), s.far ++ u16B (a % 65536), s.n + 1, 0⟩ := by unfold stepM; rw [HFU.out]; rfl
        rw [List.append_assoc l5] at hs
        refine ⟨u, uf, ?_⟩
        rw [e]
        exact hs
      · by_cases hN : (s.n : Int) + 1 = arrs.length
        · skip
          have hq : (d2 == 0) = false := beq_eq_false_iff_ne.2 h7
          have hq2 : (((s.n : Int) + 1) == (arrs.length : Int)) = true := beq_iff_eq.2 hN
          have hfu : fullM arrs.length s = true := by unfold fullM; rw [decide_eq_true (p := s.n + 1 = arrs.length) (by omega), Bool.or_true]
          clear hN
          have HFU := Lib.hid hfu
          clear hfu
          obtain ⟨hc1, hf1, hl1⟩ := Blk.all (HS.out.at 9 rfl)
          rw [HC1.out] at hc1
          have hs := HS.out.set4 0 (.int .i64 ((s.n : Int) + 1))
          simp only [List.setIfInBounds_toArray, List.set_cons_zero] at hs
          clear HS
          have HC := Lib.hid (wU16 (I := I) B 60 u (l5 ++ s.mks) (bits BinOp.or IntKind.u16 49152 (chM s 2)) hs (by have h1 := HOK5.out; have := HL5.out; rw [List.length_append]; omega) (bits_u16 _ _ _ rfl))
          clear hs
          gi_wp2_with fail
          refine ⟨trivial, rfl, ?_⟩
          refine (CallsIn.inRound _ (callsIn_wide.2 HC.out)).mono ?_
          clear HC hc1 hf1 hl1 hcN hfN hlN hcC hfC hlC
          rintro e w5 ⟨_, _, _, rfl, _, hs, rfl, rfl, u, rfl⟩
          obtain ⟨hcC, hfC, hlC⟩ := (show Blk _ CB 42 #[_] from hs.at 5 rfl).one
          have hs := hs.set5 0 (.int .u16 0)
          simp only [List.setIfInBounds_toArray, List.set_cons_zero] at hs
          have hs := hs.rot22
          have HC := Lib.hid (wU16 (I := I) F 60 uf s.far (a % 65536) hs (by have h1 := HOK5.out; omega) (by omega))
          clear hs
          gi_wp2_with fail
          refine ⟨trivial, rfl, ?_⟩
          refine (CallsIn.inRound _ (callsIn_wide.2 HC.out)).mono ?_
          clear HC
          rintro e w6 ⟨_, _, _, rfl, _, hs, rfl, rfl, uf, rfl⟩
          have hs := hs.rot22
          have HS := Lib.hid hs
          clear hs
          gi_wp2
          have hs := HS.out
          have e : stepM arrs.length s (2, a) = ⟨s.mks ++ u16B (bits BinOp.or IntKind.u16 49152 (chM s 2)), s.far ++ u16B (a % 65536), s.n + 1, 0⟩ := by unfold stepM; rw [HFU.out]; rfl
          rw [List.append_assoc l5] at hs
          refine ⟨u, uf, ?_⟩
          rw [e]
          exact hs
        · skip
          have hq : (d2 == 0) = false := beq_eq_false_iff_ne.2 h7
          have hq2 : (((s.n : Int) + 1) == (arrs.length : Int)) = false := beq_eq_false_iff_ne.2 hN
          have hfu : fullM arrs.length s = false := by unfold fullM; have := HD2.out; rw [decide_eq_false (p := (s.n + 1) % 7 = 0) (by omega), decide_eq_false (p := s.n + 1 = arrs.length) (by omega)]; rfl
          have HFU := Lib.hid hfu
          clear hfu
          obtain ⟨hc1, hf1, hl1⟩ := Blk.all (HS.out.at 9 rfl)
          rw [HC1.out] at hc1
          have hs := HS.out.set4 0 (.int .i64 ((s.n : Int) + 1))
          simp only [List.setIfInBounds_toArray, List.set_cons_zero] at hs
          clear HS
          have hs := hs.rot22
          have HC := Lib.hid (wU16 (I := I) F 60 uf s.far (a % 65536) hs (by have h1 := HOK5.out; omega) (by omega))
          clear hs
          gi_wp2_with fail
          refine ⟨trivial, rfl, ?_⟩
          refine (CallsIn.inRound _ (callsIn_wide.2 HC.out)).mono ?_
          clear HC
          rintro e w6 ⟨_, _, _, rfl, _, hs, rfl, rfl, uf, rfl⟩
          have hs := hs.rot22
          have HS := Lib.hid hs
          clear hs
          gi_wp2
          have hs := HS.out
          have e : stepM arrs.length s (2, a) = ⟨s.mks, s.far ++ u16B (a % 65536), s.n + 1, chM s 2⟩ := by unfold stepM; rw [HFU.out]; rfl
          refine ⟨u, uf, ?_⟩
          rw [e]
          exact hs
  · intro o hy W hx
    refine callsIn_wide.2 ((marks71 (okM arrs.length) (stepM arrs.length) (XM I aA arrs.length az l5 (w4.heap.size + 1) w4.heap.size PB B F NB CB (bk q1 51 cs1 :: row 5 1 v lw.length (bvs lw) :: bk p 60 #[v] :: M) o) I _ PB arrs aA az HCA.out (by omega) (fun s W ⟨u, uf, h⟩ => ⟨_, h.up6⟩) hy ms0 (okM_all arrs) W hx).mono ?_)
    rintro e W' ⟨hv, hX⟩
    exact ⟨hv, _, rfl, hX⟩
  · rintro o s W rfl ⟨u, uf, hs⟩
    generalize w4.heap.size = D at hs ⊢
    clear HS
    have hml := (foldM_ok arrs.length arrs (Nat.le_refl _)).2
    have hs := hs.out9
    obtain ⟨FA, fc, rfl⟩ := own_form (show World.ownsRow _ 0 5 1 uf (arrsM arrs).far.length (bvs (arrsM arrs).far) from hs.at 2 rfl)
    obtain ⟨hcF, hfF, hlF⟩ := (show Blk _ F 60 #[_] from hs.at 3 rfl).one
    have hs := hs.rot22
    obtain ⟨J0, hle0, hs, hA⟩ := hs.freezeRow
    have hs := hs.dn6
    have hs : St J0 (row 5 1 u (l5 ++ (arrsM arrs).mks).length (bvs (l5 ++ (arrsM arrs).mks)) :: bk B 60 #[u] :: bk q1 51 cs1 :: row 5 1 v lw.length (bvs lw) :: bk p 60 #[v] :: obk D (.deferred (some [])) :: M) W := hs
    have HCR := Lib.hid (HCR.out.mono hle0)
    have HCS := Lib.hid (HCS.out.mono hle0)
    have HCW := Lib.hid (HCW.out.mono hle0)
    have HLE0 := Lib.hid hle0
    obtain ⟨vb, hvb⟩ : ∃ z, z = u := ⟨_, rfl⟩
    rw [← hvb] at hs
    obtain ⟨l6, e6⟩ : ∃ z, z = l5 ++ (arrsM arrs).mks := ⟨_, rfl⟩
    rw [← e6] at hs
    have HL6 := Lib.hid (show l6.length ≤ 526 from by rw [e6, List.length_append]; have := HL5.out; have h2 : (arrsM arrs).mks.length ≤ 2 * arrs.length := hml.1; omega)
    have HE6 := Lib.hid e6
    clear e6
    have HS := Lib.hid hs
    clear hs
    simp only [Exit.inBlock, Exit.then]
    obtain ⟨hc1, hf1, hl1⟩ := Blk.all (HS.out.at 2 rfl)
    rw [HC1.out] at hc1
    obtain ⟨hcb, hfb, hlb⟩ := (show Blk _ B 60 #[_] from HS.out.at 1 rfl).one
    have HC := Lib.hid (wBytes (I := J0) B 60 vb l6 FA fc (arrsM arrs).far HS.out (by have := HL6.out; have h2 : (arrsM arrs).far.length ≤ 2 * arrs.length := hml.2.1; omega) (fun w2 N h => Byts.src (e := 5) (show Byts J0 FA (arrsM arrs).far from hA) h Try.underlying24 fc))
    go_wp2_with fail
    go_at_call 50
    refine HC.out.mono ?_
    clear hc1 hf1 hl1 hcb hfb hlb
    clear HS HC hcF hfF hlF
    rintro e w2 ⟨_, _, _, rfl, _, hs, rfl, rfl, vb, rfl⟩
    obtain ⟨l7, e7⟩ : ∃ z, z = l6 ++ (arrsM arrs).far := ⟨_, rfl⟩
    rw [← e7] at hs
    have HL7 := Lib.hid (show l7.length ≤ 1036 from by rw [e7, List.length_append]; have := HL6.out; have h2 : (arrsM arrs).far.length ≤ 2 * arrs.length := hml.2.1; omega)
    have HE7 := Lib.hid e7
    clear e7
    have HS := Lib.hid hs
    clear hs
    obtain ⟨hc1, hf1, hl1⟩ := Blk.all (HS.out.at 2 rfl)
    rw [HC1.out] at hc1
    obtain ⟨hcb, hfb, hlb⟩ := (show Blk _ B 60 #[_] from HS.out.at 1 rfl).one
    go_upto_region 47 with fail
    go_upto_region 48 with fail
    clear hc1 hf1 hl1 hcb hfb hlb
    go_loopw [160] (fun iv wr => ∃ i : Nat, i ≤ reps.length ∧ iv = .int .i64 i ∧ Hid (∃ vb, St J0 (row 5 1 vb (l7 ++ (reps.take i).flatMap repL).length (bvs (l7 ++ (reps.take i).flatMap repL)) :: bk B 60 #[vb] :: bk q1 51 cs1 :: row 5 1 v lw.length (bvs lw) :: bk p 60 #[v] :: obk D (.deferred (some [])) :: M) wr)) (fun iv _ => reps.length - (intOf iv).toNat)
    case atStart => exact ⟨0, by omega, rfl, vb, by simpa using HS.out⟩
    case round =>
      obtain ⟨i, hi, rfl, hh⟩ := hrel
      obtain ⟨vb, hs⟩ := hh.out
      have HS := Lib.hid hs
      clear hh hs
      by_cases hlt : i < reps.length
      · skip
        have hsn := fm_snoc repL reps i hlt
        obtain ⟨g, o, rfl, hcell⟩ := flat_get (s := 7) (fun _ => rfl) HCR.out (by omega) (by decide)
        have hm := HOK.out.reps _ (List.getElem_mem hlt)
        replace hcell : ∀ j, j < 7 → wr.cell? ⟨g, o + i * 7 + j, none⟩ = (repC reps[i])[j]? := fun j hj => hcell _ _ HS.out i hlt j hj
        obtain ⟨x, hxe⟩ : ∃ x, x = reps[i] := ⟨_, rfl⟩
        rw [← hxe] at hcell hm hsn
        have z0 : wr.cell? ⟨g, o + i * 7, none⟩ = some (.int .u32 x.src) := hcell 0 (by decide)
        have z1 : wr.cell? ⟨g, o + i * 7 + 1, none⟩ = some (.int .u8 x.lost) := hcell 1 (by decide)
        have z2 : wr.cell? ⟨g, o + i * 7 + 2, none⟩ = some (.int .u32 x.total) := hcell 2 (by decide)
        have z3 : wr.cell? ⟨g, o + i * 7 + 3, none⟩ = some (.int .u32 x.high) := hcell 3 (by decide)
        have z4 : wr.cell? ⟨g, o + i * 7 + 4, none⟩ = some (.int .u32 x.jit) := hcell 4 (by decide)
        have z5 : wr.cell? ⟨g, o + i * 7 + 5, none⟩ = some (.int .u32 x.last) := hcell 5 (by decide)
        have z6 : wr.cell? ⟨g, o + i * 7 + 6, none⟩ = some (.int .u32 x.delay) := hcell 6 (by decide)
        obtain ⟨lb, e1⟩ : ∃ z, z = l7 ++ (reps.take i).flatMap repL := ⟨_, rfl⟩
        have HL := Lib.hid (show lb.length ≤ 1780 from by rw [e1, List.length_append]; have := HL7.out; have := fm_le (f := repL) (s := 24) (n := 31) (fun x => by first | rfl | exact repL_len x) reps i (by omega); omega)
        have hs := HS.out
        rw [← e1] at hs
        have HSN := Lib.hid (And.intro e1 hsn)
        clear HS hcell hsn hxe e1
        have HS := Lib.hid hs
        clear hs
        have hs := HS.out.grow (.cells #[.int .u32 x.src, .int .u8 x.lost, .int .u32 x.total, .int .u32 x.high, .int .u32 x.jit, .int .u32 x.last, .int .u32 x.delay] 65)
        have HC := Lib.hid (repW J0 (bk q1 51 cs1 :: row 5 1 v lw.length (bvs lw) :: bk p 60 #[v] :: obk D (.deferred (some [])) :: M) _ B 60 vb lb x hm hs (by have := HL.out; omega))
        clear hs HS hm
        go_wp2_with fail
        go_at_call 54
        refine HC.out.mono ?_
        rintro e w2 ⟨_, _, _, rfl, _, hs, rfl, rfl, vb, rfl⟩
        rw [HSN.out.1, List.append_assoc, ← HSN.out.2] at hs
        have HS := Lib.hid hs
        clear hs HC HSN
        go_wp2
        go_roundw
        case rel => exact ⟨i + 1, by omega, by go_num, vb, HS.out⟩
        case measure => simp [intOf]; omega
      · skip
        have hin : i = reps.length := by omega
        have hs := HS.out
        rw [hin, List.take_length] at hs
        subst hin
        clear HS
        obtain ⟨l8, e8⟩ : ∃ z, z = l7 ++ reps.flatMap repL := ⟨_, rfl⟩
        rw [← e8] at hs
        have HL8 := Lib.hid (show l8.length ≤ 1780 from by rw [e8, List.length_append]; have := HL7.out; have := fm_len (f := repL) (s := 24) (fun x => by first | rfl | exact repL_len x) reps; omega)
        have HE8 := Lib.hid e8
        clear e8
        have HS := Lib.hid hs
        clear hs
        obtain ⟨hc1, hf1, hl1⟩ := Blk.all (HS.out.at 2 rfl)
        rw [HC1.out] at hc1
        obtain ⟨hcb, hfb, hlb⟩ := (show Blk _ B 60 #[_] from HS.out.at 1 rfl).one
        go_upto_region 53 with fail
        clear hc1 hf1 hl1 hcb hfb hlb
        go_loopw [170] (fun iv wr => ∃ i : Nat, i ≤ srcs.length ∧ iv = .int .i64 i ∧ Hid (∃ vb, St J0 (row 5 1 vb (l8 ++ (srcs.take i).flatMap u32B).length (bvs (l8 ++ (srcs.take i).flatMap u32B)) :: bk B 60 #[vb] :: bk q1 51 cs1 :: row 5 1 v lw.length (bvs lw) :: bk p 60 #[v] :: obk D (.deferred (some [])) :: M) wr)) (fun iv _ => srcs.length - (intOf iv).toNat)
        case atStart => exact ⟨0, by omega, rfl, vb, by simpa using HS.out⟩
        case round =>
          obtain ⟨i, hi, rfl, hh⟩ := hrel
          obtain ⟨vb, hs⟩ := hh.out
          have HS := Lib.hid hs
          clear hh hs
          by_cases hlt : i < srcs.length
          · skip
            have hsn := fm_snoc u32B srcs i hlt
            obtain ⟨g, o, rfl, hcell⟩ := flat_get (s := 1) (fun _ => rfl) HCS.out (by omega) (by decide)
            have hm := HOK.out.srcs _ (List.getElem_mem hlt)
            replace hcell : ∀ j, j < 1 → wr.cell? ⟨g, o + i * 1 + j, none⟩ = (u32C srcs[i])[j]? := fun j hj => hcell _ _ HS.out i hlt j hj
            obtain ⟨x, hxe⟩ : ∃ x, x = srcs[i] := ⟨_, rfl⟩
            rw [← hxe] at hcell hm hsn
            have z0 : wr.cell? ⟨g, o + i, none⟩ = some (.int .u32 x) := by have := hcell 0 (by decide); simpa using this
            obtain ⟨lb, e1⟩ : ∃ z, z = l8 ++ (srcs.take i).flatMap u32B := ⟨_, rfl⟩
            have HL := Lib.hid (show lb.length ≤ 1904 from by rw [e1, List.length_append]; have := HL8.out; have := fm_le (f := u32B) (s := 4) (n := 31) (fun x => by first | rfl | exact repL_len x) srcs i (by omega); omega)
            have hs := HS.out
            rw [← e1] at hs
            have HSN := Lib.hid (And.intro e1 hsn)
            clear HS hcell hsn hxe e1
            have HS := Lib.hid hs
            clear hs
            have HC := Lib.hid (wU32 (I := J0) B 60 vb lb x HS.out (by have := HL.out; omega) hm)
            clear HS hm
            go_wp2_with fail
            go_at_call 48
            refine HC.out.mono ?_
            rintro e w2 ⟨_, _, _, rfl, _, hs, rfl, rfl, vb, rfl⟩
            rw [HSN.out.1, List.append_assoc, ← HSN.out.2] at hs
            have HS := Lib.hid hs
            clear hs HC HSN
            go_wp2
            go_roundw
            case rel => exact ⟨i + 1, by omega, by go_num, vb, HS.out⟩
            case measure => simp [intOf]; omega
          · skip
            have hin : i = srcs.length := by omega
            have hs := HS.out
            rw [hin, List.take_length] at hs
            subst hin
            clear HS
            obtain ⟨l9, e9⟩ : ∃ z, z = l8 ++ srcs.flatMap u32B := ⟨_, rfl⟩
            rw [← e9] at hs
            have HL9 := Lib.hid (show l9.length ≤ 1904 from by rw [e9, List.length_append]; have := HL8.out; have := fm_len (f := u32B) (s := 4) (fun x => by first | rfl | exact repL_len x) srcs; omega)
            have HE9 := Lib.hid e9
            clear e9
            have HS := Lib.hid hs
            clear hs
            obtain ⟨hc1, hf1, hl1⟩ := Blk.all (HS.out.at 2 rfl)
            rw [HC1.out] at hc1
            obtain ⟨hcb, hfb, hlb⟩ := (show Blk _ B 60 #[_] from HS.out.at 1 rfl).one
            go_upto_region 58 with fail
            clear hc1 hf1 hl1 hcb hfb hlb
            go_loopw [180] (fun iv wr => ∃ i : Nat, i ≤ wants.length ∧ iv = .int .i64 i ∧ Hid (∃ vb, St J0 (row 5 1 vb (l9 ++ (wants.take i).flatMap wnL).length (bvs (l9 ++ (wants.take i).flatMap wnL)) :: bk B 60 #[vb] :: bk q1 51 cs1 :: row 5 1 v lw.length (bvs lw) :: bk p 60 #[v] :: obk D (.deferred (some [])) :: M) wr)) (fun iv _ => wants.length - (intOf iv).toNat)
            case atStart => exact ⟨0, by omega, rfl, vb, by simpa using HS.out⟩
            case round =>
              obtain ⟨i, hi, rfl, hh⟩ := hrel
              obtain ⟨vb, hs⟩ := hh.out
              have HS := Lib.hid hs
              clear hh hs
              by_cases hlt : i < wants.length
              · skip
                have hsn := fm_snoc wnL wants i hlt
                obtain ⟨g, o, rfl, hcell⟩ := flat_get (s := 2) (fun _ => rfl) HCW.out (by omega) (by decide)
                have hm := HOK.out.wants _ (List.getElem_mem hlt)
                replace hcell : ∀ j, j < 2 → wr.cell? ⟨g, o + i * 2 + j, none⟩ = (wnC wants[i])[j]? := fun j hj => hcell _ _ HS.out i hlt j hj
                obtain ⟨x, hxe⟩ : ∃ x, x = wants[i] := ⟨_, rfl⟩
                rw [← hxe] at hcell hm hsn
                have z0 : wr.cell? ⟨g, o + i * 2, none⟩ = some (.int .u32 x.src) := hcell 0 (by decide)
                have z1 : wr.cell? ⟨g, o + i * 2 + 1, none⟩ = some (.int .u8 x.seq) := hcell 1 (by decide)
                obtain ⟨lb, e1⟩ : ∃ z, z = l9 ++ (wants.take i).flatMap wnL := ⟨_, rfl⟩
                have HL := Lib.hid (show lb.length ≤ 1968 from by rw [e1, List.length_append]; have := HL9.out; have := fm_le (f := wnL) (s := 8) (n := 8) (fun x => by first | rfl | exact repL_len x) wants i (by omega); omega)
                have hs := HS.out
                rw [← e1] at hs
                have HSN := Lib.hid (And.intro e1 hsn)
                clear HS hcell hsn hxe e1
                have HS := Lib.hid hs
                clear hs
                have hs := (HS.out.alloc 68 #[.int .u32 x.src, .int .u8 x.seq]).swap2.swap1
                obtain ⟨qw, hqw⟩ : ∃ q, q = wr.heap.size := ⟨_, rfl⟩
                rw [← hqw] at hs
                have HQW := Lib.hid hqw
                clear hqw
                have HC := Lib.hid (wU32 (I := J0) (M := bk qw 68 #[.int .u32 x.src, .int .u8 x.seq] :: bk q1 51 cs1 :: row 5 1 v lw.length (bvs lw) :: bk p 60 #[v] :: obk D (.deferred (some [])) :: M) B 60 vb lb x.src hs (by have := HL.out; omega) hm.1)
                have HM := Lib.hid hm
                have hx2 := hm.2
                obtain ⟨hx3, hx4⟩ := hx2
                have hsq := hs
                clear hs HS hm
                go_upto_region 60 with fail
                rw [← HQW.out]
                obtain ⟨hx5, hx6, hx7, hx8, hx9⟩ := (show Blk _ qw 68 #[.int .u32 x.src, .int .u8 x.seq] from hsq.at 2 rfl).two
                go_wp2_with fail
                go_at_call 48
                refine HC.out.mono ?_
                rintro e w2 ⟨_, _, _, rfl, _, hs, rfl, rfl, vb, rfl⟩
                clear hx5 hx6 hx7 hx8 hx9 hsq
                obtain ⟨hx5, hx6, hx7, hx8, hx9⟩ := (show Blk _ qw 68 #[.int .u32 x.src, .int .u8 x.seq] from hs.at 2 rfl).two
                obtain ⟨lc, hlc⟩ : ∃ z, z = lb ++ u32B x.src := ⟨_, rfl⟩
                rw [← hlc] at hs
                have HC2 := Lib.hid (wU32 (I := J0) B 60 vb lc (x.seq * 16777216) hs (by rw [hlc, List.length_append, u32B_len]; have := HL.out; omega) ⟨by omega, by omega⟩)
                have HLC := Lib.hid hlc
                clear hs hlc HC
                go_wp2_with fail
                go_at_call 48
                refine HC2.out.mono ?_
                rintro e w3 ⟨_, _, _, rfl, _, hs, rfl, rfl, vb, rfl⟩
                rw [HLC.out, List.append_assoc lb] at hs
                have HC := HC2
                clear HC2 HLC
                replace hs : St J0 (row 5 1 vb (lb ++ wnL x).length (bvs (lb ++ wnL x)) :: bk B 60 #[vb] :: bk q1 51 cs1 :: row 5 1 v lw.length (bvs lw) :: bk p 60 #[v] :: obk D (.deferred (some [])) :: M) w3 := hs.swap1.swap2.drop
                clear hx5 hx6 hx7 hx8 hx9
                rw [HSN.out.1, List.append_assoc, ← HSN.out.2] at hs
                have HS := Lib.hid hs
                clear hs HC HSN
                go_wp2
                go_roundw
                case rel => exact ⟨i + 1, by omega, by go_num, vb, HS.out⟩
                case measure => simp [intOf]; omega
              · skip
                have hin : i = wants.length := by omega
                have hs := HS.out
                rw [hin, List.take_length] at hs
                subst hin
                clear HS
                obtain ⟨l10, e10⟩ : ∃ z, z = l9 ++ wants.flatMap wnL := ⟨_, rfl⟩
                rw [← e10] at hs
                have HL10 := Lib.hid (show l10.length ≤ 1968 from by rw [e10, List.length_append]; have := HL9.out; have := fm_len (f := wnL) (s := 8) (fun x => by first | rfl | exact repL_len x) wants; omega)
                have HE10 := Lib.hid e10
                clear e10
                have HS := Lib.hid hs
                clear hs
                obtain ⟨hc1, hf1, hl1⟩ := Blk.all (HS.out.at 2 rfl)
                rw [HC1.out] at hc1
                obtain ⟨hcb, hfb, hlb⟩ := (show Blk _ B 60 #[_] from HS.out.at 1 rfl).one
                have HC := Lib.hid (evenC J0 _ _ B 60 vb l10 HS.out (by have := HL10.out; omega))
                go_wp2_with fail
                go_at_call 55
                refine HC.out.mono ?_
                clear hc1 hf1 hl1 hcb hfb hlb
                clear HS HC vb
                rintro e w2 ⟨_, _, _, rfl, _, hs, rfl, rfl, vb, rfl⟩
                obtain ⟨lb, hlb⟩ : ∃ z, z = evenL l10 := ⟨_, rfl⟩
                rw [← hlb] at hs
                have HLB := Lib.hid (show lb.length ≤ 1971 from by rw [hlb]; have := HL10.out; have := evenL_le l10; omega)
                have HEB := Lib.hid hlb
                clear hlb
                have hs := hs.rot23
                have hlow := bits_or64 HLOW.out.1 HLOW.out.2
                have hlo := HLOW.out
                simp only [lowP, whereP, if_true, if_false, Int.reduceEq, Int.reduceNeg, Int.reduceLT] at hlow hlo
                obtain ⟨hlo1, hlo2⟩ := hlo
                have HC := Lib.hid (wU8 (I := J0) p 60 v lw (128 + 15) hs (by omega) (by omega))
                clear hs
                go_wp2_with fail
                go_at_call 49
                refine HC.out.mono ?_
                clear HC
                rintro e w2 ⟨_, _, _, rfl, _, hs, rfl, rfl, v, rfl⟩
                have HC := Lib.hid (wU8 (I := J0) p 60 v _ 205 hs (by rw [List.length_append]; show _ + 1 ≤ _; omega) (by decide))
                clear hs hlow hlo1 hlo2
                go_wp2_with fail
                go_at_call 49
                refine HC.out.mono ?_
                clear HC
                rintro e w2 ⟨_, _, _, rfl, _, hs, rfl, rfl, v, rfl⟩
                obtain ⟨lx, hlx⟩ : ∃ z, z = lw ++ [byteOf (128 + 15)] ++ [byteOf 205] := ⟨_, rfl⟩
                rw [← hlx] at hs
                have hlxl : lx.length = lw.length + 2 := by rw [hlx]; simp
                have HLX := Lib.hid hlx
                clear hlx
                have h5 := HLB.out
                have HC := Lib.hid (wU16 (I := J0) p 60 v lx ((lb.length / 4 : Nat) : Int) hs (by omega) ⟨by omega, by omega⟩)
                obtain ⟨A, c, rfl⟩ := own_form (show World.ownsRow _ 0 5 1 vb lb.length (bvs lb) from hs.at 2 rfl)
                obtain ⟨hcb, hfb, hlb⟩ := (show Blk _ B 60 #[_] from hs.at 3 rfl).one
                clear hs
                go_wp2_with fail
                go_at_call 52
                refine HC.out.mono ?_
                clear HC hcb hfb hlb
                rintro e w2 ⟨_, _, _, rfl, _, hs, rfl, rfl, v, rfl⟩
                have hs := hs.rot32
                obtain ⟨J, hle, hs, hA⟩ := hs.freezeRow
                have hs := hs.rot22
                obtain ⟨hcb, hfb, hlb⟩ := (show Blk _ B 60 #[_] from hs.at 2 rfl).one
                obtain ⟨ly, hly⟩ : ∃ z, z = lx ++ u16B ((lb.length / 4 : Nat) : Int) := ⟨_, rfl⟩
                rw [← hly] at hs
                have hlyl : ly.length = lx.length + 2 := by rw [hly, List.length_append, u16B_len]
                have HLY := Lib.hid hly
                have HC := Lib.hid (wBytes (I := J) p 60 v ly A c lb hs (by omega) (fun w2 N h => Byts.src (e := 5) (show Byts J A lb from hA) h Try.underlying24 c))
                have HLE := Lib.hid hle
                clear hs hly hle hA
                go_wp2_with fail
                go_at_call 50
                refine HC.out.mono ?_
                rintro e w2 ⟨_, _, _, rfl, _, hs, rfl, rfl, v, rfl⟩
                have HS := Lib.hid hs.drop23
                clear hs HC
                go_wp2
                refine ⟨by simp, .inl ⟨_, _, rfl, run_takeDeferred (show (World.heap _)[D]? = some (.deferred (some [])) from HS.out.at 2 rfl), ?_⟩⟩
                replace HS := Lib.hid (HS.out.swap2.putOb (.deferred none)).swap2.swap1.swap2.drop
                refine ⟨_, results_none rfl _ _ _, ?_⟩
                refine Ret.mk (HLE0.out.trans HLE.out) HS.out ⟨rfl, v, ?_⟩
                have hb : l10 = bodyL (⟨6, sender, media, ntp, rtp, pkts, octs, reps, name, srcs, seqs, base, ref, count, arrs, wants⟩ : Pk) := by
                  rw [HE10.out, HE9.out, HE8.out, HE7.out, HE6.out, HE5.out, HE4.out, HE3.out, HE2.out, HE1.out, HE0.out]
                  simp [bodyL, kindL, flatU32, arrsL]
                have hlb2 : lb = evenL (bodyL (⟨6, sender, media, ntp, rtp, pkts, octs, reps, name, srcs, seqs, base, ref, count, arrs, wants⟩ : Pk)) := by rw [HEB.out, hb]
                have he : lp ++ packB (⟨6, sender, media, ntp, rtp, pkts, octs, reps, name, srcs, seqs, base, ref, count, arrs, wants⟩ : Pk) = ly ++ lb := by
                  unfold packB
                  rw [← hlb2, HLY.out, HLX.out, ← HLW.out]
                  simp [lowP, whereP]
                rw [he]
end Go.Proofs.Ytddopbbmgpnjjaa
namespace Go.Proofs.Ytddopbbmgpnjjaa
open Go.RowKit
set_option linter.unusedSimpArgs false


set_option maxRecDepth 100000 in
set_option maxHeartbeats 40000000 in
theorem write7 (I : Img) (M : List Res) (w : World) (sender : Int) (media : Int) (ntp : Int) (rtp : Int) (pkts : Int) (octs : Int) (base : Int) (ref : Int) (count : Int) (name : ByteArray) (reps : List Rp) (srcs seqs arrs : List Int) (wants : List Wn) (rA : Option Addr) (rz : Nat) (sA : Option Addr) (sz : Nat) (qA : Option Addr) (qz : Nat) (aA : Option Addr) (az : Nat) (wA : Option Addr) (wz : Nat) (cr : Cells I rA (flat repC reps)) (cs : Cells I sA (flat u32C srcs)) (cq : Cells I qA (flat u16C seqs)) (ca : Cells I aA (flat intC arrs)) (cw : Cells I wA (flat wnC wants)) (p : Nat) (v : Value) (lp : List UInt8) (hok : PkOk (⟨7, sender, media, ntp, rtp, pkts, octs, reps, name, srcs, seqs, base, ref, count, arrs, wants⟩ : Pk)) (hg : Good (⟨7, sender, media, ntp, rtp, pkts, octs, reps, name, srcs, seqs, base, ref, count, arrs, wants⟩ : Pk)) (hl0 : lp.length ≤ 70368744170000) (hst : St I (row 5 1 v lp.length (bvs lp) :: bk p 60 #[v] :: M) w) :
    Calls Try.prog 21 #[.agg #[.int .i64 7, .int .u32 sender, .int .u32 media, .int .u64 ntp, .int .u32 rtp, .int .u32 pkts, .int .u32 octs, .slice rA reps.length rz, .string name, .slice sA srcs.length sz, .slice qA seqs.length qz, .int .u16 base, .int .u32 ref, .int .u8 count, .slice aA arrs.length az, .slice wA wants.length wz], .pointer (some ⟨p, 0, none⟩)] w (Ret I (fun v' _ M' => Wrote M p 60 (lp ++ packB (⟨7, sender, media, ntp, rtp, pkts, octs, reps, name, srcs, seqs, base, ref, count, arrs, wants⟩ : Pk)) v' M')) := by
  have hs1 := hst.alloc 51 #[.int .i64 7, .int .u32 sender, .int .u32 media, .int .u64 ntp, .int .u32 rtp, .int .u32 pkts, .int .u32 octs, .slice rA reps.length rz, .string name, .slice sA srcs.length sz, .slice qA seqs.length qz, .int .u16 base, .int .u32 ref, .int .u8 count, .slice aA arrs.length az, .slice wA wants.length wz]
  have HOK := Lib.hid hok
  obtain ⟨n1, n2, n3, n4, n5, n6⟩ := good_lens hg
  have HLOW := Lib.hid (lowP_ok hg)
  simp only [] at n1 n2 n3 n4 n5 n6
  have HCR := Lib.hid cr
  have HCS := Lib.hid cs
  have HCW := Lib.hid cw
  have HCQ := Lib.hid cq
  have HCA := Lib.hid ca
  clear cr cs cq ca cw

  have HW := Lib.hid (whereC 7 (w.alloc (.cells #[.int .i64 7, .int .u32 sender, .int .u32 media, .int .u64 ntp, .int .u32 rtp, .int .u32 pkts, .int .u32 octs, .slice rA reps.length rz, .string name, .slice sA srcs.length sz, .slice qA seqs.length qz, .int .u16 base, .int .u32 ref, .int .u8 count, .slice aA arrs.length az, .slice wA wants.length wz] 51)))
  obtain ⟨q1, hq1⟩ : ∃ q, q = w.heap.size := ⟨_, rfl⟩
  rw [← hq1] at hs1
  clear hst hok hg
  go_enter Try.func21, Try.ntmps21
  go_upto_region 1 with fail
  rw [← hq1]
  clear hq1
  generalize World.alloc w _ = W at hs1 HW ⊢
  obtain ⟨hc1, hf1, hl1⟩ := Blk.all (hs1.at 0 rfl)
  have HS0 := Lib.hid hs1
  clear hs1
  go_wp2_with fail
  go_at_call 47
  refine HW.out.mono ?_
  rintro e w2 ⟨rfl, hw⟩
  subst hw
  simp only [whereP, if_true, if_false, Int.reduceEq, Int.reduceNeg]
  clear HW
  go_upto_region 5 with fail
  have hs : St I (row 5 1 (.slice none 0 0) ([] : List UInt8).length (bvs []) :: bk W.heap.size 60 #[.slice none 0 0] :: bk q1 51 #[.int .i64 7, .int .u32 sender, .int .u32 media, .int .u64 ntp, .int .u32 rtp, .int .u32 pkts, .int .u32 octs, .slice rA reps.length rz, .string name, .slice sA srcs.length sz, .slice qA seqs.length qz, .int .u16 base, .int .u32 ref, .int .u8 count, .slice aA arrs.length az, .slice wA wants.length wz] :: row 5 1 v lp.length (bvs lp) :: bk p 60 #[v] :: M) (W.alloc (.cells #[.slice none 0 0] 60)) := (HS0.out.alloc 60 #[.slice none 0 0]).nil
  obtain ⟨B, hB⟩ : ∃ B, B = W.heap.size := ⟨_, rfl⟩
  rw [← hB] at hs ⊢
  generalize World.alloc W _ = W2 at hs ⊢
  clear hB hc1 hf1 hl1 HS0
  obtain ⟨cs1, hcs1⟩ : ∃ z : Array Value, z = #[.int .i64 7, .int .u32 sender, .int .u32 media, .int .u64 ntp, .int .u32 rtp, .int .u32 pkts, .int .u32 octs, .slice rA reps.length rz, .string name, .slice sA srcs.length sz, .slice qA seqs.length qz, .int .u16 base, .int .u32 ref, .int .u8 count, .slice aA arrs.length az, .slice wA wants.length wz] := ⟨_, rfl⟩
  rw [← hcs1] at hs
  have HC1 := Lib.hid hcs1
  clear hcs1
  obtain ⟨vb, hvb⟩ : ∃ vb : Value, vb = .slice none 0 0 := ⟨_, rfl⟩
  rw [← hvb] at hs
  clear hvb
  obtain ⟨lw, hlw⟩ : ∃ lw, lw = lp := ⟨_, rfl⟩
  rw [← hlw] at hs hl0
  have HLW := Lib.hid hlw
  clear hlw
  obtain ⟨l0, e0⟩ : ∃ z : List UInt8, z = [] := ⟨_, rfl⟩
  rw [← e0] at hs
  have HL0 := Lib.hid (show l0.length ≤ 0 from by rw [e0]; exact Nat.le_refl _)
  have HE0 := Lib.hid e0
  have HS := Lib.hid hs
  clear hs e0
  obtain ⟨hc1, hf1, hl1⟩ := Blk.all (HS.out.at 2 rfl)
  rw [HC1.out] at hc1
  obtain ⟨hcb, hfb, hlb⟩ := (show Blk _ B 60 #[_] from HS.out.at 1 rfl).one
  have HC := Lib.hid (wU32 (I := I) B 60 vb l0 sender HS.out (by have := HL0.out; omega) HOK.out.sender)
  go_wp2_with fail
  go_at_call 48
  refine HC.out.mono ?_
  clear hc1 hf1 hl1 hcb hfb hlb
  clear HS HC vb
  rintro e w2 ⟨_, _, _, rfl, _, hs, rfl, rfl, vb, rfl⟩
  obtain ⟨l1, e1⟩ : ∃ z, z = l0 ++ u32B sender := ⟨_, rfl⟩
  rw [← e1] at hs
  have HL1 := Lib.hid (show l1.length ≤ 4 from by rw [e1, List.length_append]; have := HL0.out; have : (u32B sender).length = 4 := (by first | rfl | simp); omega)
  have HE1 := Lib.hid e1
  clear e1
  have HS := Lib.hid hs
  clear hs
  obtain ⟨hc1, hf1, hl1⟩ := Blk.all (HS.out.at 2 rfl)
  rw [HC1.out] at hc1
  obtain ⟨hcb, hfb, hlb⟩ := (show Blk _ B 60 #[_] from HS.out.at 1 rfl).one
  have HC := Lib.hid (wU32 (I := I) B 60 vb l1 media HS.out (by have := HL1.out; omega) HOK.out.media)
  go_wp2_with fail
  go_at_call 48
  refine HC.out.mono ?_
  clear hc1 hf1 hl1 hcb hfb hlb
  clear HS HC vb
  rintro e w2 ⟨_, _, _, rfl, _, hs, rfl, rfl, vb, rfl⟩
  obtain ⟨l2, e2⟩ : ∃ z, z = l1 ++ u32B media := ⟨_, rfl⟩
  rw [← e2] at hs
  have HL2 := Lib.hid (show l2.length ≤ 8 from by rw [e2, List.length_append]; have := HL1.out; have : (u32B media).length = 4 := (by first | rfl | simp); omega)
  have HE2 := Lib.hid e2
  clear e2
  have HS := Lib.hid hs
  clear hs
  obtain ⟨hc1, hf1, hl1⟩ := Blk.all (HS.out.at 2 rfl)
  rw [HC1.out] at hc1
  obtain ⟨hcb, hfb, hlb⟩ := (show Blk _ B 60 #[_] from HS.out.at 1 rfl).one
  go_upto_region 47 with fail
  go_upto_region 48 with fail
  clear hc1 hf1 hl1 hcb hfb hlb
  go_loopw [160] (fun iv wr => ∃ i : Nat, i ≤ reps.length ∧ iv = .int .i64 i ∧ Hid (∃ vb, St I (row 5 1 vb (l2 ++ (reps.take i).flatMap repL).length (bvs (l2 ++ (reps.take i).flatMap repL)) :: bk B 60 #[vb] :: bk q1 51 cs1 :: row 5 1 v lw.length (bvs lw) :: bk p 60 #[v] :: M) wr)) (fun iv _ => reps.length - (intOf iv).toNat)
  case atStart => exact ⟨0, by omega, rfl, vb, by simpa using HS.out⟩
  case round =>
    obtain ⟨i, hi, rfl, hh⟩ := hrel
    obtain ⟨vb, hs⟩ := hh.out
    have HS := Lib.hid hs
    clear hh hs
    by_cases hlt : i < reps.length
    · skip
      have hsn := fm_snoc repL reps i hlt
      obtain ⟨g, o, rfl, hcell⟩ := flat_get (s := 7) (fun _ => rfl) HCR.out (by omega) (by decide)
      have hm := HOK.out.reps _ (List.getElem_mem hlt)
      replace hcell : ∀ j, j < 7 → wr.cell? ⟨g, o + i * 7 + j, none⟩ = (repC reps[i])[j]? := fun j hj => hcell _ _ HS.out i hlt j hj
      obtain ⟨x, hxe⟩ : ∃ x, x = reps[i] := ⟨_, rfl⟩
      rw [← hxe] at hcell hm hsn
      have z0 : wr.cell? ⟨g, o + i * 7, none⟩ = some (.int .u32 x.src) := hcell 0 (by decide)
      have z1 : wr.cell? ⟨g, o + i * 7 + 1, none⟩ = some (.int .u8 x.lost) := hcell 1 (by decide)
      have z2 : wr.cell? ⟨g, o + i * 7 + 2, none⟩ = some (.int .u32 x.total) := hcell 2 (by decide)
      have z3 : wr.cell? ⟨g, o + i * 7 + 3, none⟩ = some (.int .u32 x.high) := hcell 3 (by decide)
      have z4 : wr.cell? ⟨g, o + i * 7 + 4, none⟩ = some (.int .u32 x.jit) := hcell 4 (by decide)
      have z5 : wr.cell? ⟨g, o + i * 7 + 5, none⟩ = some (.int .u32 x.last) := hcell 5 (by decide)
      have z6 : wr.cell? ⟨g, o + i * 7 + 6, none⟩ = some (.int .u32 x.delay) := hcell 6 (by decide)
      obtain ⟨lb, e1⟩ : ∃ z, z = l2 ++ (reps.take i).flatMap repL := ⟨_, rfl⟩
      have HL := Lib.hid (show lb.length ≤ 752 from by rw [e1, List.length_append]; have := HL2.out; have := fm_le (f := repL) (s := 24) (n := 31) (fun x => by first | rfl | exact repL_len x) reps i (by omega); omega)
      have hs := HS.out
      rw [← e1] at hs
      have HSN := Lib.hid (And.intro e1 hsn)
      clear HS hcell hsn hxe e1
      have HS := Lib.hid hs
      clear hs
      have hs := HS.out.grow (.cells #[.int .u32 x.src, .int .u8 x.lost, .int .u32 x.total, .int .u32 x.high, .int .u32 x.jit, .int .u32 x.last, .int .u32 x.delay] 65)
      have HC := Lib.hid (repW I (bk q1 51 cs1 :: row 5 1 v lw.length (bvs lw) :: bk p 60 #[v] :: M) _ B 60 vb lb x hm hs (by have := HL.out; omega))
      clear hs HS hm
      go_wp2_with fail
      go_at_call 54
      refine HC.out.mono ?_
      rintro e w2 ⟨_, _, _, rfl, _, hs, rfl, rfl, vb, rfl⟩
      rw [HSN.out.1, List.append_assoc, ← HSN.out.2] at hs
      have HS := Lib.hid hs
      clear hs HC HSN
      go_wp2
      go_roundw
      case rel => exact ⟨i + 1, by omega, by go_num, vb, HS.out⟩
      case measure => simp [intOf]; omega
    · skip
      have hin : i = reps.length := by omega
      have hs := HS.out
      rw [hin, List.take_length] at hs
      subst hin
      clear HS
      obtain ⟨l3, e3⟩ : ∃ z, z = l2 ++ reps.flatMap repL := ⟨_, rfl⟩
      rw [← e3] at hs
      have HL3 := Lib.hid (show l3.length ≤ 752 from by rw [e3, List.length_append]; have := HL2.out; have := fm_len (f := repL) (s := 24) (fun x => by first | rfl | exact repL_len x) reps; omega)
      have HE3 := Lib.hid e3
      clear e3
      have HS := Lib.hid hs
      clear hs
      obtain ⟨hc1, hf1, hl1⟩ := Blk.all (HS.out.at 2 rfl)
      rw [HC1.out] at hc1
      obtain ⟨hcb, hfb, hlb⟩ := (show Blk _ B 60 #[_] from HS.out.at 1 rfl).one
      go_upto_region 53 with fail
      clear hc1 hf1 hl1 hcb hfb hlb
      go_loopw [170] (fun iv wr => ∃ i : Nat, i ≤ srcs.length ∧ iv = .int .i64 i ∧ Hid (∃ vb, St I (row 5 1 vb (l3 ++ (srcs.take i).flatMap u32B).length (bvs (l3 ++ (srcs.take i).flatMap u32B)) :: bk B 60 #[vb] :: bk q1 51 cs1 :: row 5 1 v lw.length (bvs lw) :: bk p 60 #[v] :: M) wr)) (fun iv _ => srcs.length - (intOf iv).toNat)
      case atStart => exact ⟨0, by omega, rfl, vb, by simpa using HS.out⟩
      case round =>
        obtain ⟨i, hi, rfl, hh⟩ := hrel
        obtain ⟨vb, hs⟩ := hh.out
        have HS := Lib.hid hs
        clear hh hs
        by_cases hlt : i < srcs.length
        · skip
          have hsn := fm_snoc u32B srcs i hlt
          obtain ⟨g, o, rfl, hcell⟩ := flat_get (s := 1) (fun _ => rfl) HCS.out (by omega) (by decide)
          have hm := HOK.out.srcs _ (List.getElem_mem hlt)
          replace hcell : ∀ j, j < 1 → wr.cell? ⟨g, o + i * 1 + j, none⟩ = (u32C srcs[i])[j]? := fun j hj => hcell _ _ HS.out i hlt j hj
          obtain ⟨x, hxe⟩ : ∃ x, x = srcs[i] := ⟨_, rfl⟩
          rw [← hxe] at hcell hm hsn
          have z0 : wr.cell? ⟨g, o + i, none⟩ = some (.int .u32 x) := by have := hcell 0 (by decide); simpa using this
          obtain ⟨lb, e1⟩ : ∃ z, z = l3 ++ (srcs.take i).flatMap u32B := ⟨_, rfl⟩
          have HL := Lib.hid (show lb.length ≤ 876 from by rw [e1, List.length_append]; have := HL3.out; have := fm_le (f := u32B) (s := 4) (n := 31) (fun x => by first | rfl | exact repL_len x) srcs i (by omega); omega)
          have hs := HS.out
          rw [← e1] at hs
          have HSN := Lib.hid (And.intro e1 hsn)
          clear HS hcell hsn hxe e1
          have HS := Lib.hid hs
          clear hs
          have HC := Lib.hid (wU32 (I := I) B 60 vb lb x HS.out (by have := HL.out; omega) hm)
          clear HS hm
          go_wp2_with fail
          go_at_call 48
          refine HC.out.mono ?_
          rintro e w2 ⟨_, _, _, rfl, _, hs, rfl, rfl, vb, rfl⟩
          rw [HSN.out.1, List.append_assoc, ← HSN.out.2] at hs
          have HS := Lib.hid hs
          clear hs HC HSN
          go_wp2
          go_roundw
          case rel => exact ⟨i + 1, by omega, by go_num, vb, HS.out⟩
          case measure => simp [intOf]; omega
        · skip
          have hin : i = srcs.length := by omega
          have hs := HS.out
          rw [hin, List.take_length] at hs
          subst hin
          clear HS
          obtain ⟨l4, e4⟩ : ∃ z, z = l3 ++ srcs.flatMap u32B := ⟨_, rfl⟩
          rw [← e4] at hs
          have HL4 := Lib.hid (show l4.length ≤ 876 from by rw [e4, List.length_append]; have := HL3.out; have := fm_len (f := u32B) (s := 4) (fun x => by first | rfl | exact repL_len x) srcs; omega)
          have HE4 := Lib.hid e4
          clear e4
          have HS := Lib.hid hs
          clear hs
          obtain ⟨hc1, hf1, hl1⟩ := Blk.all (HS.out.at 2 rfl)
          rw [HC1.out] at hc1
          obtain ⟨hcb, hfb, hlb⟩ := (show Blk _ B 60 #[_] from HS.out.at 1 rfl).one
          go_upto_region 58 with fail
          clear hc1 hf1 hl1 hcb hfb hlb
          go_loopw [180] (fun iv wr => ∃ i : Nat, i ≤ wants.length ∧ iv = .int .i64 i ∧ Hid (∃ vb, St I (row 5 1 vb (l4 ++ (wants.take i).flatMap wnL).length (bvs (l4 ++ (wants.take i).flatMap wnL)) :: bk B 60 #[vb] :: bk q1 51 cs1 :: row 5 1 v lw.length (bvs lw) :: bk p 60 #[v] :: M) wr)) (fun iv _ => wants.length - (intOf iv).toNat)
          case atStart => exact ⟨0, by omega, rfl, vb, by simpa using HS.out⟩
          case round =>
            obtain ⟨i, hi, rfl, hh⟩ := hrel
            obtain ⟨vb, hs⟩ := hh.out
            have HS := Lib.hid hs
            clear hh hs
            by_cases hlt : i < wants.length
            · skip
              have hsn := fm_snoc wnL wants i hlt
              obtain ⟨g, o, rfl, hcell⟩ := flat_get (s := 2) (fun _ => rfl) HCW.out (by omega) (by decide)
              have hm := HOK.out.wants _ (List.getElem_mem hlt)
              replace hcell : ∀ j, j < 2 → wr.cell? ⟨g, o + i * 2 + j, none⟩ = (wnC wants[i])[j]? := fun j hj => hcell _ _ HS.out i hlt j hj
              obtain ⟨x, hxe⟩ : ∃ x, x = wants[i] := ⟨_, rfl⟩
              rw [← hxe] at hcell hm hsn
              have z0 : wr.cell? ⟨g, o + i * 2, none⟩ = some (.int .u32 x.src) := hcell 0 (by decide)
              have z1 : wr.cell? ⟨g, o + i * 2 + 1, none⟩ = some (.int .u8 x.seq) := hcell 1 (by decide)
              obtain ⟨lb, e1⟩ : ∃ z, z = l4 ++ (wants.take i).flatMap wnL := ⟨_, rfl⟩
              have HL := Lib.hid (show lb.length ≤ 940 from by rw [e1, List.length_append]; have := HL4.out; have := fm_le (f := wnL) (s := 8) (n := 8) (fun x => by first | rfl | exact repL_len x) wants i (by omega); omega)
              have hs := HS.out
              rw [← e1] at hs
              have HSN := Lib.hid (And.intro e1 hsn)
              clear HS hcell hsn hxe e1
              have HS := Lib.hid hs
              clear hs
              have hs := (HS.out.alloc 68 #[.int .u32 x.src, .int .u8 x.seq]).swap2.swap1
              obtain ⟨qw, hqw⟩ : ∃ q, q = wr.heap.size := ⟨_, rfl⟩
              rw [← hqw] at hs
              have HQW := Lib.hid hqw
              clear hqw
              have HC := Lib.hid (wU32 (I := I) (M := bk qw 68 #[.int .u32 x.src, .int .u8 x.seq] :: bk q1 51 cs1 :: row 5 1 v lw.length (bvs lw) :: bk p 60 #[v] :: M) B 60 vb lb x.src hs (by have := HL.out; omega) hm.1)
              have HM := Lib.hid hm
              have hx2 := hm.2
              obtain ⟨hx3, hx4⟩ := hx2
              have hsq := hs
              clear hs HS hm
              go_upto_region 60 with fail
              rw [← HQW.out]
              obtain ⟨hx5, hx6, hx7, hx8, hx9⟩ := (show Blk _ qw 68 #[.int .u32 x.src, .int .u8 x.seq] from hsq.at 2 rfl).two
              go_wp2_with fail
              go_at_call 48
              refine HC.out.mono ?_
              rintro e w2 ⟨_, _, _, rfl, _, hs, rfl, rfl, vb, rfl⟩
              clear hx5 hx6 hx7 hx8 hx9 hsq
              obtain ⟨hx5, hx6, hx7, hx8, hx9⟩ := (show Blk _ qw 68 #[.int .u32 x.src, .int .u8 x.seq] from hs.at 2 rfl).two
              obtain ⟨lc, hlc⟩ : ∃ z, z = lb ++ u32B x.src := ⟨_, rfl⟩
              rw [← hlc] at hs
              have HC2 := Lib.hid (wU32 (I := I) B 60 vb lc (x.seq * 16777216) hs (by rw [hlc, List.length_append, u32B_len]; have := HL.out; omega) ⟨by omega, by omega⟩)
              have HLC := Lib.hid hlc
              clear hs hlc HC
              go_wp2_with fail
              go_at_call 48
              refine HC2.out.mono ?_
              rintro e w3 ⟨_, _, _, rfl, _, hs, rfl, rfl, vb, rfl⟩
              rw [HLC.out, List.append_assoc lb] at hs
              have HC := HC2
              clear HC2 HLC
              replace hs : St I (row 5 1 vb (lb ++ wnL x).length (bvs (lb ++ wnL x)) :: bk B 60 #[vb] :: bk q1 51 cs1 :: row 5 1 v lw.length (bvs lw) :: bk p 60 #[v] :: M) w3 := hs.swap1.swap2.drop
              clear hx5 hx6 hx7 hx8 hx9
              rw [HSN.out.1, List.append_assoc, ← HSN.out.2] at hs
              have HS := Lib.hid hs
              clear hs HC HSN
              go_wp2
              go_roundw
              case rel => exact ⟨i + 1, by omega, by go_num, vb, HS.out⟩
              case measure => simp [intOf]; omega
            · skip
              have hin : i = wants.length := by omega
              have hs := HS.out
              rw [hin, List.take_length] at hs
              subst hin
              clear HS
              obtain ⟨l5, e5⟩ : ∃ z, z = l4 ++ wants.flatMap wnL := ⟨_, rfl⟩
              rw [← e5] at hs
              have HL5 := Lib.hid (show l5.length ≤ 940 from by rw [e5, List.length_append]; have := HL4.out; have := fm_len (f := wnL) (s := 8) (fun x => by first | rfl | exact repL_len x) wants; omega)
              have HE5 := Lib.hid e5
              clear e5
              have HS := Lib.hid hs
              clear hs
              obtain ⟨hc1, hf1, hl1⟩ := Blk.all (HS.out.at 2 rfl)
              rw [HC1.out] at hc1
              obtain ⟨hcb, hfb, hlb⟩ := (show Blk _ B 60 #[_] from HS.out.at 1 rfl).one
              have HC := Lib.hid (evenC I _ _ B 60 vb l5 HS.out (by have := HL5.out; omega))
              go_wp2_with fail
              go_at_call 55
              refine HC.out.mono ?_
              clear hc1 hf1 hl1 hcb hfb hlb
              clear HS HC vb
              rintro e w2 ⟨_, _, _, rfl, _, hs, rfl, rfl, vb, rfl⟩
              obtain ⟨lb, hlb⟩ : ∃ z, z = evenL l5 := ⟨_, rfl⟩
              rw [← hlb] at hs
              have HLB := Lib.hid (show lb.length ≤ 943 from by rw [hlb]; have := HL5.out; have := evenL_le l5; omega)
              have HEB := Lib.hid hlb
              clear hlb
              have hs := hs.rot23
              have hlow := bits_or64 HLOW.out.1 HLOW.out.2
              have hlo := HLOW.out
              simp only [lowP, whereP, if_true, if_false, Int.reduceEq, Int.reduceNeg, Int.reduceLT] at hlow hlo
              obtain ⟨hlo1, hlo2⟩ := hlo
              have HC := Lib.hid (wU8 (I := I) p 60 v lw (128 + 1) hs (by omega) (by omega))
              clear hs
              go_wp2_with fail
              go_at_call 49
              refine HC.out.mono ?_
              clear HC
              rintro e w2 ⟨_, _, _, rfl, _, hs, rfl, rfl, v, rfl⟩
              have HC := Lib.hid (wU8 (I := I) p 60 v _ 206 hs (by rw [List.length_append]; show _ + 1 ≤ _; omega) (by decide))
              clear hs hlow hlo1 hlo2
              go_wp2_with fail
              go_at_call 49
              refine HC.out.mono ?_
              clear HC
              rintro e w2 ⟨_, _, _, rfl, _, hs, rfl, rfl, v, rfl⟩
              obtain ⟨lx, hlx⟩ : ∃ z, z = lw ++ [byteOf (128 + 1)] ++ [byteOf 206] := ⟨_, rfl⟩
              rw [← hlx] at hs
              have hlxl : lx.length = lw.length + 2 := by rw [hlx]; simp
              have HLX := Lib.hid hlx
              clear hlx
              have h5 := HLB.out
              have HC := Lib.hid (wU16 (I := I) p 60 v lx ((lb.length / 4 : Nat) : Int) hs (by omega) ⟨by omega, by omega⟩)
              obtain ⟨A, c, rfl⟩ := own_form (show World.ownsRow _ 0 5 1 vb lb.length (bvs lb) from hs.at 2 rfl)
              obtain ⟨hcb, hfb, hlb⟩ := (show Blk _ B 60 #[_] from hs.at 3 rfl).one
              clear hs
              go_wp2_with fail
              go_at_call 52
              refine HC.out.mono ?_
              clear HC hcb hfb hlb
              rintro e w2 ⟨_, _, _, rfl, _, hs, rfl, rfl, v, rfl⟩
              have hs := hs.rot32
              obtain ⟨J, hle, hs, hA⟩ := hs.freezeRow
              have hs := hs.rot22
              obtain ⟨hcb, hfb, hlb⟩ := (show Blk _ B 60 #[_] from hs.at 2 rfl).one
              obtain ⟨ly, hly⟩ : ∃ z, z = lx ++ u16B ((lb.length / 4 : Nat) : Int) := ⟨_, rfl⟩
              rw [← hly] at hs
              have hlyl : ly.length = lx.length + 2 := by rw [hly, List.length_append, u16B_len]
              have HLY := Lib.hid hly
              have HC := Lib.hid (wBytes (I := J) p 60 v ly A c lb hs (by omega) (fun w2 N h => Byts.src (e := 5) (show Byts J A lb from hA) h Try.underlying24 c))
              have HLE := Lib.hid hle
              clear hs hly hle hA
              go_wp2_with fail
              go_at_call 50
              refine HC.out.mono ?_
              rintro e w2 ⟨_, _, _, rfl, _, hs, rfl, rfl, v, rfl⟩
              have HS := Lib.hid hs.drop23
              clear hs HC
              go_wp2
              go_returns
              refine Ret.mk (HLE.out) HS.out ⟨rfl, v, ?_⟩
              have hb : l5 = bodyL (⟨7, sender, media, ntp, rtp, pkts, octs, reps, name, srcs, seqs, base, ref, count, arrs, wants⟩ : Pk) := by
                rw [HE5.out, HE4.out, HE3.out, HE2.out, HE1.out, HE0.out]
                simp [bodyL, kindL, flatU32]
              have hlb2 : lb = evenL (bodyL (⟨7, sender, media, ntp, rtp, pkts, octs, reps, name, srcs, seqs, base, ref, count, arrs, wants⟩ : Pk)) := by rw [HEB.out, hb]
              have he : lp ++ packB (⟨7, sender, media, ntp, rtp, pkts, octs, reps, name, srcs, seqs, base, ref, count, arrs, wants⟩ : Pk) = ly ++ lb := by
                unfold packB
                rw [← hlb2, HLY.out, HLX.out, ← HLW.out]
                simp [lowP, whereP]
              rw [he]
end Go.Proofs.Ytddopbbmgpnjjaa
namespace Go.Proofs.Ytddopbbmgpnjjaa
open Go.RowKit
set_option linter.unusedSimpArgs false


set_option maxRecDepth 100000 in
set_option maxHeartbeats 40000000 in
theorem write8 (I : Img) (M : List Res) (w : World) (sender : Int) (media : Int) (ntp : Int) (rtp : Int) (pkts : Int) (octs : Int) (base : Int) (ref : Int) (count : Int) (name : ByteArray) (reps : List Rp) (srcs seqs arrs : List Int) (wants : List Wn) (rA : Option Addr) (rz : Nat) (sA : Option Addr) (sz : Nat) (qA : Option Addr) (qz : Nat) (aA : Option Addr) (az : Nat) (wA : Option Addr) (wz : Nat) (cr : Cells I rA (flat repC reps)) (cs : Cells I sA (flat u32C srcs)) (cq : Cells I qA (flat u16C seqs)) (ca : Cells I aA (flat intC arrs)) (cw : Cells I wA (flat wnC wants)) (p : Nat) (v : Value) (lp : List UInt8) (hok : PkOk (⟨8, sender, media, ntp, rtp, pkts, octs, reps, name, srcs, seqs, base, ref, count, arrs, wants⟩ : Pk)) (hg : Good (⟨8, sender, media, ntp, rtp, pkts, octs, reps, name, srcs, seqs, base, ref, count, arrs, wants⟩ : Pk)) (hl0 : lp.length ≤ 70368744170000) (hst : St I (row 5 1 v lp.length (bvs lp) :: bk p 60 #[v] :: M) w) :
    Calls Try.prog 21 #[.agg #[.int .i64 8, .int .u32 sender, .int .u32 media, .int .u64 ntp, .int .u32 rtp, .int .u32 pkts, .int .u32 octs, .slice rA reps.length rz, .string name, .slice sA srcs.length sz, .slice qA seqs.length qz, .int .u16 base, .int .u32 ref, .int .u8 count, .slice aA arrs.length az, .slice wA wants.length wz], .pointer (some ⟨p, 0, none⟩)] w (Ret I (fun v' _ M' => Wrote M p 60 (lp ++ packB (⟨8, sender, media, ntp, rtp, pkts, octs, reps, name, srcs, seqs, base, ref, count, arrs, wants⟩ : Pk)) v' M')) := by
  have hs1 := hst.alloc 51 #[.int .i64 8, .int .u32 sender, .int .u32 media, .int .u64 ntp, .int .u32 rtp, .int .u32 pkts, .int .u32 octs, .slice rA reps.length rz, .string name, .slice sA srcs.length sz, .slice qA seqs.length qz, .int .u16 base, .int .u32 ref, .int .u8 count, .slice aA arrs.length az, .slice wA wants.length wz]
  have HOK := Lib.hid hok
  obtain ⟨n1, n2, n3, n4, n5, n6⟩ := good_lens hg
  have HLOW := Lib.hid (lowP_ok hg)
  simp only [] at n1 n2 n3 n4 n5 n6
  have HCR := Lib.hid cr
  have HCS := Lib.hid cs
  have HCW := Lib.hid cw
  have HCQ := Lib.hid cq
  have HCA := Lib.hid ca
  clear cr cs cq ca cw

  have HW := Lib.hid (whereC 8 (w.alloc (.cells #[.int .i64 8, .int .u32 sender, .int .u32 media, .int .u64 ntp, .int .u32 rtp, .int .u32 pkts, .int .u32 octs, .slice rA reps.length rz, .string name, .slice sA srcs.length sz, .slice qA seqs.length qz, .int .u16 base, .int .u32 ref, .int .u8 count, .slice aA arrs.length az, .slice wA wants.length wz] 51)))
  obtain ⟨q1, hq1⟩ : ∃ q, q = w.heap.size := ⟨_, rfl⟩
  rw [← hq1] at hs1
  clear hst hok hg
  go_enter Try.func21, Try.ntmps21
  go_upto_region 1 with fail
  rw [← hq1]
  clear hq1
  generalize World.alloc w _ = W at hs1 HW ⊢
  obtain ⟨hc1, hf1, hl1⟩ := Blk.all (hs1.at 0 rfl)
  have HS0 := Lib.hid hs1
  clear hs1
  go_wp2_with fail
  go_at_call 47
  refine HW.out.mono ?_
  rintro e w2 ⟨rfl, hw⟩
  subst hw
  simp only [whereP, if_true, if_false, Int.reduceEq, Int.reduceNeg]
  clear HW
  go_upto_region 5 with fail
  have hs : St I (row 5 1 (.slice none 0 0) ([] : List UInt8).length (bvs []) :: bk W.heap.size 60 #[.slice none 0 0] :: bk q1 51 #[.int .i64 8, .int .u32 sender, .int .u32 media, .int .u64 ntp, .int .u32 rtp, .int .u32 pkts, .int .u32 octs, .slice rA reps.length rz, .string name, .slice sA srcs.length sz, .slice qA seqs.length qz, .int .u16 base, .int .u32 ref, .int .u8 count, .slice aA arrs.length az, .slice wA wants.length wz] :: row 5 1 v lp.length (bvs lp) :: bk p 60 #[v] :: M) (W.alloc (.cells #[.slice none 0 0] 60)) := (HS0.out.alloc 60 #[.slice none 0 0]).nil
  obtain ⟨B, hB⟩ : ∃ B, B = W.heap.size := ⟨_, rfl⟩
  rw [← hB] at hs ⊢
  generalize World.alloc W _ = W2 at hs ⊢
  clear hB hc1 hf1 hl1 HS0
  obtain ⟨cs1, hcs1⟩ : ∃ z : Array Value, z = #[.int .i64 8, .int .u32 sender, .int .u32 media, .int .u64 ntp, .int .u32 rtp, .int .u32 pkts, .int .u32 octs, .slice rA reps.length rz, .string name, .slice sA srcs.length sz, .slice qA seqs.length qz, .int .u16 base, .int .u32 ref, .int .u8 count, .slice aA arrs.length az, .slice wA wants.length wz] := ⟨_, rfl⟩
  rw [← hcs1] at hs
  have HC1 := Lib.hid hcs1
  clear hcs1
  obtain ⟨vb, hvb⟩ : ∃ vb : Value, vb = .slice none 0 0 := ⟨_, rfl⟩
  rw [← hvb] at hs
  clear hvb
  obtain ⟨lw, hlw⟩ : ∃ lw, lw = lp := ⟨_, rfl⟩
  rw [← hlw] at hs hl0
  have HLW := Lib.hid hlw
  clear hlw
  obtain ⟨l0, e0⟩ : ∃ z : List UInt8, z = [] := ⟨_, rfl⟩
  rw [← e0] at hs
  have HL0 := Lib.hid (show l0.length ≤ 0 from by rw [e0]; exact Nat.le_refl _)
  have HE0 := Lib.hid e0
  have HS := Lib.hid hs
  clear hs e0
  obtain ⟨hc1, hf1, hl1⟩ := Blk.all (HS.out.at 2 rfl)
  rw [HC1.out] at hc1
  obtain ⟨hcb, hfb, hlb⟩ := (show Blk _ B 60 #[_] from HS.out.at 1 rfl).one
  have HC := Lib.hid (wU32 (I := I) B 60 vb l0 sender HS.out (by have := HL0.out; omega) HOK.out.sender)
  go_wp2_with fail
  go_at_call 48
  refine HC.out.mono ?_
  clear hc1 hf1 hl1 hcb hfb hlb
  clear HS HC vb
  rintro e w2 ⟨_, _, _, rfl, _, hs, rfl, rfl, vb, rfl⟩
  obtain ⟨l1, e1⟩ : ∃ z, z = l0 ++ u32B sender := ⟨_, rfl⟩
  rw [← e1] at hs
  have HL1 := Lib.hid (show l1.length ≤ 4 from by rw [e1, List.length_append]; have := HL0.out; have : (u32B sender).length = 4 := (by first | rfl | simp); omega)
  have HE1 := Lib.hid e1
  clear e1
  have HS := Lib.hid hs
  clear hs
  obtain ⟨hc1, hf1, hl1⟩ := Blk.all (HS.out.at 2 rfl)
  rw [HC1.out] at hc1
  obtain ⟨hcb, hfb, hlb⟩ := (show Blk _ B 60 #[_] from HS.out.at 1 rfl).one
  have HC := Lib.hid (wU32 (I := I) B 60 vb l1 media HS.out (by have := HL1.out; omega) HOK.out.media)
  go_wp2_with fail
  go_at_call 48
  refine HC.out.mono ?_
  clear hc1 hf1 hl1 hcb hfb hlb
  clear HS HC vb
  rintro e w2 ⟨_, _, _, rfl, _, hs, rfl, rfl, vb, rfl⟩
  obtain ⟨l2, e2⟩ : ∃ z, z = l1 ++ u32B media := ⟨_, rfl⟩
  rw [← e2] at hs
  have HL2 := Lib.hid (show l2.length ≤ 8 from by rw [e2, List.length_append]; have := HL1.out; have : (u32B media).length = 4 := (by first | rfl | simp); omega)
  have HE2 := Lib.hid e2
  clear e2
  have HS := Lib.hid hs
  clear hs
  obtain ⟨hc1, hf1, hl1⟩ := Blk.all (HS.out.at 2 rfl)
  rw [HC1.out] at hc1
  obtain ⟨hcb, hfb, hlb⟩ := (show Blk _ B 60 #[_] from HS.out.at 1 rfl).one
  go_upto_region 47 with fail
  go_upto_region 48 with fail
  clear hc1 hf1 hl1 hcb hfb hlb
  go_loopw [160] (fun iv wr => ∃ i : Nat, i ≤ reps.length ∧ iv = .int .i64 i ∧ Hid (∃ vb, St I (row 5 1 vb (l2 ++ (reps.take i).flatMap repL).length (bvs (l2 ++ (reps.take i).flatMap repL)) :: bk B 60 #[vb] :: bk q1 51 cs1 :: row 5 1 v lw.length (bvs lw) :: bk p 60 #[v] :: M) wr)) (fun iv _ => reps.length - (intOf iv).toNat)
  case atStart => exact ⟨0, by omega, rfl, vb, by simpa using HS.out⟩
  case round =>
    obtain ⟨i, hi, rfl, hh⟩ := hrel
    obtain ⟨vb, hs⟩ := hh.out
    have HS := Lib.hid hs
    clear hh hs
    by_cases hlt : i < reps.length
    · skip
      have hsn := fm_snoc repL reps i hlt
      obtain ⟨g, o, rfl, hcell⟩ := flat_get (s := 7) (fun _ => rfl) HCR.out (by omega) (by decide)
      have hm := HOK.out.reps _ (List.getElem_mem hlt)
      replace hcell : ∀ j, j < 7 → wr.cell? ⟨g, o + i * 7 + j, none⟩ = (repC reps[i])[j]? := fun j hj => hcell _ _ HS.out i hlt j hj
      obtain ⟨x, hxe⟩ : ∃ x, x = reps[i] := ⟨_, rfl⟩
      rw [← hxe] at hcell hm hsn
      have z0 : wr.cell? ⟨g, o + i * 7, none⟩ = some (.int .u32 x.src) := hcell 0 (by decide)
      have z1 : wr.cell? ⟨g, o + i * 7 + 1, none⟩ = some (.int .u8 x.lost) := hcell 1 (by decide)
      have z2 : wr.cell? ⟨g, o + i * 7 + 2, none⟩ = some (.int .u32 x.total) := hcell 2 (by decide)
      have z3 : wr.cell? ⟨g, o + i * 7 + 3, none⟩ = some (.int .u32 x.high) := hcell 3 (by decide)
      have z4 : wr.cell? ⟨g, o + i * 7 + 4, none⟩ = some (.int .u32 x.jit) := hcell 4 (by decide)
      have z5 : wr.cell? ⟨g, o + i * 7 + 5, none⟩ = some (.int .u32 x.last) := hcell 5 (by decide)
      have z6 : wr.cell? ⟨g, o + i * 7 + 6, none⟩ = some (.int .u32 x.delay) := hcell 6 (by decide)
      obtain ⟨lb, e1⟩ : ∃ z, z = l2 ++ (reps.take i).flatMap repL := ⟨_, rfl⟩
      have HL := Lib.hid (show lb.length ≤ 752 from by rw [e1, List.length_append]; have := HL2.out; have := fm_le (f := repL) (s := 24) (n := 31) (fun x => by first | rfl | exact repL_len x) reps i (by omega); omega)
      have hs := HS.out
      rw [← e1] at hs
      have HSN := Lib.hid (And.intro e1 hsn)
      clear HS hcell hsn hxe e1
      have HS := Lib.hid hs
      clear hs
      have hs := HS.out.grow (.cells #[.int .u32 x.src, .int .u8 x.lost, .int .u32 x.total, .int .u32 x.high, .int .u32 x.jit, .int .u32 x.last, .int .u32 x.delay] 65)
      have HC := Lib.hid (repW I (bk q1 51 cs1 :: row 5 1 v lw.length (bvs lw) :: bk p 60 #[v] :: M) _ B 60 vb lb x hm hs (by have := HL.out; omega))
      clear hs HS hm
      go_wp2_with fail
      go_at_call 54
      refine HC.out.mono ?_
      rintro e w2 ⟨_, _, _, rfl, _, hs, rfl, rfl, vb, rfl⟩
      rw [HSN.out.1, List.append_assoc, ← HSN.out.2] at hs
      have HS := Lib.hid hs
      clear hs HC HSN
      go_wp2
      go_roundw
      case rel => exact ⟨i + 1, by omega, by go_num, vb, HS.out⟩
      case measure => simp [intOf]; omega
    · skip
      have hin : i = reps.length := by omega
      have hs := HS.out
      rw [hin, List.take_length] at hs
      subst hin
      clear HS
      obtain ⟨l3, e3⟩ : ∃ z, z = l2 ++ reps.flatMap repL := ⟨_, rfl⟩
      rw [← e3] at hs
      have HL3 := Lib.hid (show l3.length ≤ 752 from by rw [e3, List.length_append]; have := HL2.out; have := fm_len (f := repL) (s := 24) (fun x => by first | rfl | exact repL_len x) reps; omega)
      have HE3 := Lib.hid e3
      clear e3
      have HS := Lib.hid hs
      clear hs
      obtain ⟨hc1, hf1, hl1⟩ := Blk.all (HS.out.at 2 rfl)
      rw [HC1.out] at hc1
      obtain ⟨hcb, hfb, hlb⟩ := (show Blk _ B 60 #[_] from HS.out.at 1 rfl).one
      go_upto_region 53 with fail
      clear hc1 hf1 hl1 hcb hfb hlb
      go_loopw [170] (fun iv wr => ∃ i : Nat, i ≤ srcs.length ∧ iv = .int .i64 i ∧ Hid (∃ vb, St I (row 5 1 vb (l3 ++ (srcs.take i).flatMap u32B).length (bvs (l3 ++ (srcs.take i).flatMap u32B)) :: bk B 60 #[vb] :: bk q1 51 cs1 :: row 5 1 v lw.length (bvs lw) :: bk p 60 #[v] :: M) wr)) (fun iv _ => srcs.length - (intOf iv).toNat)
      case atStart => exact ⟨0, by omega, rfl, vb, by simpa using HS.out⟩
      case round =>
        obtain ⟨i, hi, rfl, hh⟩ := hrel
        obtain ⟨vb, hs⟩ := hh.out
        have HS := Lib.hid hs
        clear hh hs
        by_cases hlt : i < srcs.length
        · skip
          have hsn := fm_snoc u32B srcs i hlt
          obtain ⟨g, o, rfl, hcell⟩ := flat_get (s := 1) (fun _ => rfl) HCS.out (by omega) (by decide)
          have hm := HOK.out.srcs _ (List.getElem_mem hlt)
          replace hcell : ∀ j, j < 1 → wr.cell? ⟨g, o + i * 1 + j, none⟩ = (u32C srcs[i])[j]? := fun j hj => hcell _ _ HS.out i hlt j hj
          obtain ⟨x, hxe⟩ : ∃ x, x = srcs[i] := ⟨_, rfl⟩
          rw [← hxe] at hcell hm hsn
          have z0 : wr.cell? ⟨g, o + i, none⟩ = some (.int .u32 x) := by have := hcell 0 (by decide); simpa using this
          obtain ⟨lb, e1⟩ : ∃ z, z = l3 ++ (srcs.take i).flatMap u32B := ⟨_, rfl⟩
          have HL := Lib.hid (show lb.length ≤ 876 from by rw [e1, List.length_append]; have := HL3.out; have := fm_le (f := u32B) (s := 4) (n := 31) (fun x => by first | rfl | exact repL_len x) srcs i (by omega); omega)
          have hs := HS.out
          rw [← e1] at hs
          have HSN := Lib.hid (And.intro e1 hsn)
          clear HS hcell hsn hxe e1
          have HS := Lib.hid hs
          clear hs
          have HC := Lib.hid (wU32 (I := I) B 60 vb lb x HS.out (by have := HL.out; omega) hm)
          clear HS hm
          go_wp2_with fail
          go_at_call 48
          refine HC.out.mono ?_
          rintro e w2 ⟨_, _, _, rfl, _, hs, rfl, rfl, vb, rfl⟩
          rw [HSN.out.1, List.append_assoc, ← HSN.out.2] at hs
          have HS := Lib.hid hs
          clear hs HC HSN
          go_wp2
          go_roundw
          case rel => exact ⟨i + 1, by omega, by go_num, vb, HS.out⟩
          case measure => simp [intOf]; omega
        · skip
          have hin : i = srcs.length := by omega
          have hs := HS.out
          rw [hin, List.take_length] at hs
          subst hin
          clear HS
          obtain ⟨l4, e4⟩ : ∃ z, z = l3 ++ srcs.flatMap u32B := ⟨_, rfl⟩
          rw [← e4] at hs
          have HL4 := Lib.hid (show l4.length ≤ 876 from by rw [e4, List.length_append]; have := HL3.out; have := fm_len (f := u32B) (s := 4) (fun x => by first | rfl | exact repL_len x) srcs; omega)
          have HE4 := Lib.hid e4
          clear e4
          have HS := Lib.hid hs
          clear hs
          obtain ⟨hc1, hf1, hl1⟩ := Blk.all (HS.out.at 2 rfl)
          rw [HC1.out] at hc1
          obtain ⟨hcb, hfb, hlb⟩ := (show Blk _ B 60 #[_] from HS.out.at 1 rfl).one
          go_upto_region 58 with fail
          clear hc1 hf1 hl1 hcb hfb hlb
          go_loopw [180] (fun iv wr => ∃ i : Nat, i ≤ wants.length ∧ iv = .int .i64 i ∧ Hid (∃ vb, St I (row 5 1 vb (l4 ++ (wants.take i).flatMap wnL).length (bvs (l4 ++ (wants.take i).flatMap wnL)) :: bk B 60 #[vb] :: bk q1 51 cs1 :: row 5 1 v lw.length (bvs lw) :: bk p 60 #[v] :: M) wr)) (fun iv _ => wants.length - (intOf iv).toNat)
          case atStart => exact ⟨0, by omega, rfl, vb, by simpa using HS.out⟩
          case round =>
            obtain ⟨i, hi, rfl, hh⟩ := hrel
            obtain ⟨vb, hs⟩ := hh.out
            have HS := Lib.hid hs
            clear hh hs
            by_cases hlt : i < wants.length
            · skip
              have hsn := fm_snoc wnL wants i hlt
              obtain ⟨g, o, rfl, hcell⟩ := flat_get (s := 2) (fun _ => rfl) HCW.out (by omega) (by decide)
              have hm := HOK.out.wants _ (List.getElem_mem hlt)
              replace hcell : ∀ j, j < 2 → wr.cell? ⟨g, o + i * 2 + j, none⟩ = (wnC wants[i])[j]? := fun j hj => hcell _ _ HS.out i hlt j hj
              obtain ⟨x, hxe⟩ : ∃ x, x = wants[i] := ⟨_, rfl⟩
              rw [← hxe] at hcell hm hsn
              have z0 : wr.cell? ⟨g, o + i * 2, none⟩ = some (.int .u32 x.src) := hcell 0 (by decide)
              have z1 : wr.cell? ⟨g, o + i * 2 + 1, none⟩ = some (.int .u8 x.seq) := hcell 1 (by decide)
              obtain ⟨lb, e1⟩ : ∃ z, z = l4 ++ (wants.take i).flatMap wnL := ⟨_, rfl⟩
              have HL := Lib.hid (show lb.length ≤ 940 from by rw [e1, List.length_append]; have := HL4.out; have := fm_le (f := wnL) (s := 8) (n := 8) (fun x => by first | rfl | exact repL_len x) wants i (by omega); omega)
              have hs := HS.out
              rw [← e1] at hs
              have HSN := Lib.hid (And.intro e1 hsn)
              clear HS hcell hsn hxe e1
              have HS := Lib.hid hs
              clear hs
              have hs := (HS.out.alloc 68 #[.int .u32 x.src, .int .u8 x.seq]).swap2.swap1
              obtain ⟨qw, hqw⟩ : ∃ q, q = wr.heap.size := ⟨_, rfl⟩
              rw [← hqw] at hs
              have HQW := Lib.hid hqw
              clear hqw
              have HC := Lib.hid (wU32 (I := I) (M := bk qw 68 #[.int .u32 x.src, .int .u8 x.seq] :: bk q1 51 cs1 :: row 5 1 v lw.length (bvs lw) :: bk p 60 #[v] :: M) B 60 vb lb x.src hs (by have := HL.out; omega) hm.1)
              have HM := Lib.hid hm
              have hx2 := hm.2
              obtain ⟨hx3, hx4⟩ := hx2
              have hsq := hs
              clear hs HS hm
              go_upto_region 60 with fail
              rw [← HQW.out]
              obtain ⟨hx5, hx6, hx7, hx8, hx9⟩ := (show Blk _ qw 68 #[.int .u32 x.src, .int .u8 x.seq] from hsq.at 2 rfl).two
              go_wp2_with fail
              go_at_call 48
              refine HC.out.mono ?_
              rintro e w2 ⟨_, _, _, rfl, _, hs, rfl, rfl, vb, rfl⟩
              clear hx5 hx6 hx7 hx8 hx9 hsq
              obtain ⟨hx5, hx6, hx7, hx8, hx9⟩ := (show Blk _ qw 68 #[.int .u32 x.src, .int .u8 x.seq] from hs.at 2 rfl).two
              obtain ⟨lc, hlc⟩ : ∃ z, z = lb ++ u32B x.src := ⟨_, rfl⟩
              rw [← hlc] at hs
              have HC2 := Lib.hid (wU32 (I := I) B 60 vb lc (x.seq * 16777216) hs (by rw [hlc, List.length_append, u32B_len]; have := HL.out; omega) ⟨by omega, by omega⟩)
              have HLC := Lib.hid hlc
              clear hs hlc HC
              go_wp2_with fail
              go_at_call 48
              refine HC2.out.mono ?_
              rintro e w3 ⟨_, _, _, rfl, _, hs, rfl, rfl, vb, rfl⟩
              rw [HLC.out, List.append_assoc lb] at hs
              have HC := HC2
              clear HC2 HLC
              replace hs : St I (row 5 1 vb (lb ++ wnL x).length (bvs (lb ++ wnL x)) :: bk B 60 #[vb] :: bk q1 51 cs1 :: row 5 1 v lw.length (bvs lw) :: bk p 60 #[v] :: M) w3 := hs.swap1.swap2.drop
              clear hx5 hx6 hx7 hx8 hx9
              rw [HSN.out.1, List.append_assoc, ← HSN.out.2] at hs
              have HS := Lib.hid hs
              clear hs HC HSN
              go_wp2
              go_roundw
              case rel => exact ⟨i + 1, by omega, by go_num, vb, HS.out⟩
              case measure => simp [intOf]; omega
            · skip
              have hin : i = wants.length := by omega
              have hs := HS.out
              rw [hin, List.take_length] at hs
              subst hin
              clear HS
              obtain ⟨l5, e5⟩ : ∃ z, z = l4 ++ wants.flatMap wnL := ⟨_, rfl⟩
              rw [← e5] at hs
              have HL5 := Lib.hid (show l5.length ≤ 940 from by rw [e5, List.length_append]; have := HL4.out; have := fm_len (f := wnL) (s := 8) (fun x => by first | rfl | exact repL_len x) wants; omega)
              have HE5 := Lib.hid e5
              clear e5
              have HS := Lib.hid hs
              clear hs
              obtain ⟨hc1, hf1, hl1⟩ := Blk.all (HS.out.at 2 rfl)
              rw [HC1.out] at hc1
              obtain ⟨hcb, hfb, hlb⟩ := (show Blk _ B 60 #[_] from HS.out.at 1 rfl).one
              have HC := Lib.hid (evenC I _ _ B 60 vb l5 HS.out (by have := HL5.out; omega))
              go_wp2_with fail
              go_at_call 55
              refine HC.out.mono ?_
              clear hc1 hf1 hl1 hcb hfb hlb
              clear HS HC vb
              rintro e w2 ⟨_, _, _, rfl, _, hs, rfl, rfl, vb, rfl⟩
              obtain ⟨lb, hlb⟩ : ∃ z, z = evenL l5 := ⟨_, rfl⟩
              rw [← hlb] at hs
              have HLB := Lib.hid (show lb.length ≤ 943 from by rw [hlb]; have := HL5.out; have := evenL_le l5; omega)
              have HEB := Lib.hid hlb
              clear hlb
              have hs := hs.rot23
              have hlow := bits_or64 HLOW.out.1 HLOW.out.2
              have hlo := HLOW.out
              simp only [lowP, whereP, if_true, if_false, Int.reduceEq, Int.reduceNeg, Int.reduceLT] at hlow hlo
              obtain ⟨hlo1, hlo2⟩ := hlo
              have HC := Lib.hid (wU8 (I := I) p 60 v lw (128 + 4) hs (by omega) (by omega))
              clear hs
              go_wp2_with fail
              go_at_call 49
              refine HC.out.mono ?_
              clear HC
              rintro e w2 ⟨_, _, _, rfl, _, hs, rfl, rfl, v, rfl⟩
              have HC := Lib.hid (wU8 (I := I) p 60 v _ 206 hs (by rw [List.length_append]; show _ + 1 ≤ _; omega) (by decide))
              clear hs hlow hlo1 hlo2
              go_wp2_with fail
              go_at_call 49
              refine HC.out.mono ?_
              clear HC
              rintro e w2 ⟨_, _, _, rfl, _, hs, rfl, rfl, v, rfl⟩
              obtain ⟨lx, hlx⟩ : ∃ z, z = lw ++ [byteOf (128 + 4)] ++ [byteOf 206] := ⟨_, rfl⟩
              rw [← hlx] at hs
              have hlxl : lx.length = lw.length + 2 := by rw [hlx]; simp
              have HLX := Lib.hid hlx
              clear hlx
              have h5 := HLB.out
              have HC := Lib.hid (wU16 (I := I) p 60 v lx ((lb.length / 4 : Nat) : Int) hs (by omega) ⟨by omega, by omega⟩)
              obtain ⟨A, c, rfl⟩ := own_form (show World.ownsRow _ 0 5 1 vb lb.length (bvs lb) from hs.at 2 rfl)
              obtain ⟨hcb, hfb, hlb⟩ := (show Blk _ B 60 #[_] from hs.at 3 rfl).one
              clear hs
              go_wp2_with fail
              go_at_call 52
              refine HC.out.mono ?_
              clear HC hcb hfb hlb
              rintro e w2 ⟨_, _, _, rfl, _, hs, rfl, rfl, v, rfl⟩
              have hs := hs.rot32
              obtain ⟨J, hle, hs, hA⟩ := hs.freezeRow
              have hs := hs.rot22
              obtain ⟨hcb, hfb, hlb⟩ := (show Blk _ B 60 #[_] from hs.at 2 rfl).one
              obtain ⟨ly, hly⟩ : ∃ z, z = lx ++ u16B ((lb.length / 4 : Nat) : Int) := ⟨_, rfl⟩
              rw [← hly] at hs
              have hlyl : ly.length = lx.length + 2 := by rw [hly, List.length_append, u16B_len]
              have HLY := Lib.hid hly
              have HC := Lib.hid (wBytes (I := J) p 60 v ly A c lb hs (by omega) (fun w2 N h => Byts.src (e := 5) (show Byts J A lb from hA) h Try.underlying24 c))
              have HLE := Lib.hid hle
              clear hs hly hle hA
              go_wp2_with fail
              go_at_call 50
              refine HC.out.mono ?_
              rintro e w2 ⟨_, _, _, rfl, _, hs, rfl, rfl, v, rfl⟩
              have HS := Lib.hid hs.drop23
              clear hs HC
              go_wp2
              go_returns
              refine Ret.mk (HLE.out) HS.out ⟨rfl, v, ?_⟩
              have hb : l5 = bodyL (⟨8, sender, media, ntp, rtp, pkts, octs, reps, name, srcs, seqs, base, ref, count, arrs, wants⟩ : Pk) := by
                rw [HE5.out, HE4.out, HE3.out, HE2.out, HE1.out, HE0.out]
                simp [bodyL, kindL, flatU32]
              have hlb2 : lb = evenL (bodyL (⟨8, sender, media, ntp, rtp, pkts, octs, reps, name, srcs, seqs, base, ref, count, arrs, wants⟩ : Pk)) := by rw [HEB.out, hb]
              have he : lp ++ packB (⟨8, sender, media, ntp, rtp, pkts, octs, reps, name, srcs, seqs, base, ref, count, arrs, wants⟩ : Pk) = ly ++ lb := by
                unfold packB
                rw [← hlb2, HLY.out, HLX.out, ← HLW.out]
                simp [lowP, whereP]
              rw [he]
end Go.Proofs.Ytddopbbmgpnjjaa
namespace Go.Proofs.Ytddopbbmgpnjjaa
open Go.RowKit
set_option linter.unusedSimpArgs false

set_option maxRecDepth 10000 in
set_option maxHeartbeats 4000000 in
theorem writeC (I : Img) (M : List Res) (w : World) (kind : Int) (sender : Int) (media : Int) (ntp : Int) (rtp : Int) (pkts : Int) (octs : Int) (base : Int) (ref : Int) (count : Int) (name : ByteArray) (reps : List Rp) (srcs seqs arrs : List Int) (wants : List Wn) (rA : Option Addr) (rz : Nat) (sA : Option Addr) (sz : Nat) (qA : Option Addr) (qz : Nat) (aA : Option Addr) (az : Nat) (wA : Option Addr) (wz : Nat) (cr : Cells I rA (flat repC reps)) (cs : Cells I sA (flat u32C srcs)) (cq : Cells I qA (flat u16C seqs)) (ca : Cells I aA (flat intC arrs)) (cw : Cells I wA (flat wnC wants)) (p : Nat) (v : Value) (lp : List UInt8) (hok : PkOk (⟨kind, sender, media, ntp, rtp, pkts, octs, reps, name, srcs, seqs, base, ref, count, arrs, wants⟩ : Pk)) (hg : Good (⟨kind, sender, media, ntp, rtp, pkts, octs, reps, name, srcs, seqs, base, ref, count, arrs, wants⟩ : Pk)) (hl0 : lp.length ≤ 70368744170000) (hqz : seqs.length ≤ qz) (hst : St I (row 5 1 v lp.length (bvs lp) :: bk p 60 #[v] :: M) w) :
    Calls Try.prog 21 #[.agg #[.int .i64 kind, .int .u32 sender, .int .u32 media, .int .u64 ntp, .int .u32 rtp, .int .u32 pkts, .int .u32 octs, .slice rA reps.length rz, .string name, .slice sA srcs.length sz, .slice qA seqs.length qz, .int .u16 base, .int .u32 ref, .int .u8 count, .slice aA arrs.length az, .slice wA wants.length wz], .pointer (some ⟨p, 0, none⟩)] w (Ret I (fun v' _ M' => Wrote M p 60 (lp ++ packB (⟨kind, sender, media, ntp, rtp, pkts, octs, reps, name, srcs, seqs, base, ref, count, arrs, wants⟩ : Pk)) v' M')) := by
  have hk : kind = 1 ∨ kind = 2 ∨ kind = 3 ∨ kind = 4 ∨ kind = 5 ∨ kind = 6 ∨ kind = 7 ∨ kind = 8 := by
    rcases hg.1 with ⟨h | h, _⟩ | ⟨h, _⟩ | ⟨h, _⟩ | ⟨h, _⟩ | ⟨h, _⟩ | h | ⟨h, _⟩ <;> simp only [] at h <;> simp [h]
  rcases hk with rfl | rfl | rfl | rfl | rfl | rfl | rfl | rfl
  · exact write1 I M w sender media ntp rtp pkts octs base ref count name reps srcs seqs arrs wants rA rz sA sz qA qz aA az wA wz cr cs cq ca cw p v lp hok hg hl0 hst
  · exact write2 I M w sender media ntp rtp pkts octs base ref count name reps srcs seqs arrs wants rA rz sA sz qA qz aA az wA wz cr cs cq ca cw p v lp hok hg hl0 hst
  · exact write3 I M w sender media ntp rtp pkts octs base ref count name reps srcs seqs arrs wants rA rz sA sz qA qz aA az wA wz cr cs cq ca cw p v lp hok hg hl0 hst
  · exact write4 I M w sender media ntp rtp pkts octs base ref count name reps srcs seqs arrs wants rA rz sA sz qA qz aA az wA wz cr cs cq ca cw p v lp hok hg hl0 hst
  · exact write5 I M w sender media ntp rtp pkts octs base ref count name reps srcs seqs arrs wants rA rz sA sz qA qz aA az wA wz cr cs cq ca cw p v lp hok hg hl0 hqz hst
  · exact write6 I M w sender media ntp rtp pkts octs base ref count name reps srcs seqs arrs wants rA rz sA sz qA qz aA az wA wz cr cs cq ca cw p v lp hok hg hl0 hst
  · exact write7 I M w sender media ntp rtp pkts octs base ref count name reps srcs seqs arrs wants rA rz sA sz qA qz aA az wA wz cr cs cq ca cw p v lp hok hg hl0 hst
  · exact write8 I M w sender media ntp rtp pkts octs base ref count name reps srcs seqs arrs wants rA rz sA sz qA qz aA az wA wz cr cs cq ca cw p v lp hok hg hl0 hst
end Go.Proofs.Ytddopbbmgpnjjaa
