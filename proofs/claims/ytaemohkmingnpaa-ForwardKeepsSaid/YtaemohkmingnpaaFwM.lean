/- ForwardKeeps. -/
import Derived.Test.YtaemohkmingnpaaFwN
import Derived.Test.YtaemohkmingnpaaFwF
namespace Go.Proofs.Ytaemohkmingnpaa
open Go.RowKit
set_option linter.unusedSimpArgs false

theorem pushK (I : Img) (M : List Res) (w : World) (p : Nat) (m : Md) (P : Pk) (A : Option Addr) (c : Nat) (bs : List UInt8) (now : Int) (fr : Bool) (hfr : frS (fl0 m) bs = fr) (hst : St I (bk p 64 (flC (fl0 m)) :: M) w) (hb : Byts I A bs) (hl : bs.length ≤ 140737488351232) (hm : m.ok) (hP : P.ok) (hn : -9223372036854775808 ≤ now ∧ now ≤ 9223372036854775807) :
    Calls Try.prog 11 #[.pointer (some ⟨p, 0, none⟩), .int .i64 0, .agg (pkC P (.slice A bs.length c)), .int .i64 now] w (fun e w' => ∃ J P2 A2 c2 us ask, e = .returned (.tuple #[.agg (xC P2 (.slice A2 (List.length us) c2)), .bool fr, .bool ask]) ∧ I.le J ∧ St J (row 5 1 (.slice A2 us.length c2) us.length (bvs us) :: M) w' ∧ us.length ≤ 140737488351232 ∧ P2.seq = if fr = true then m.seq else 0) := by
  refine (pushC I M w p (fl0 m) P A c bs 0 now hst hb hl (fl0_ok hm) hP hn).mono ?_
  rintro e w2 ⟨v, J, M2, rfl, hle, hs, hq⟩
  have hpu : pushS (fl0 m) 0 P bs now = if fr = true then ({ fl0 m with offset := (timeS (fl0 m) now - P.time) % 4294967296, layer := 0, broken := false }, true, false) else (fl0 m, false, true) := by
    unfold pushS
    rw [if_neg (by show ¬ ((0 : Int) < 0 ∨ ((0 : Int) ≠ -1 ∧ (0 : Int) ≠ 0)); omega), if_pos (by show (0 : Int) ≠ -1; omega), hfr]
  rcases hq with ⟨f3, h1, A2, c2, rfl, _, rfl⟩ | ⟨f3, a3, h1, rfl, rfl⟩
  · rw [hpu] at h1
    cases fr
    · injection h1 with _ h2; injection h2 with h2 _; cases h2
    · injection h1 with h1 _
      refine ⟨J, outP f3 P, A2, c2, payS f3 (beginsS (fl0 m).codec bs).1 bs, false, rfl, hle, hs.swap1.drop, by rw [payS_len]; exact hl, ?_⟩
      rw [← h1]; rfl
  · rw [hpu] at h1
    cases fr
    · exact ⟨J, zeroP, none, 0, [], a3, rfl, hle, hs.drop.nil, by simp, rfl⟩
    · injection h1 with _ h2; injection h2 with h2 _; cases h2
theorem kKeep {w : World} {q : Nat} {x : OpD} (h : Blk w q 44 (opC x)) : w.cell? ⟨q, 2, none⟩ = some (.int .u16 x.seq) ∧ w.cell? ⟨q, 3, none⟩ = some (.int .u32 x.time) ∧ w.cell? ⟨q, 5, none⟩ = some (.slice x.A x.bs.length x.c) := ⟨h.cell 2, h.cell 3, h.cell 5⟩
set_option maxRecDepth 8000 in
set_option maxHeartbeats 8000000 in
theorem law7 (I : Img) (M : List Res) (w : World) (m : Md) (x : OpD) (hst : St I M w) (hm : m.ok) (hx : x.ok) (hb : Byts I x.A x.bs) (hl : x.bs.length ≤ 140737488351232) :
    Calls Try.prog 7 #[.agg (mdC m), .agg (opC x)] w (Yes I M) := by
  obtain ⟨pick, layer, seq, time, marker, Ax, cx, bs, now⟩ := x
  obtain ⟨ol, os, ot, on⟩ := hx
  dsimp only at hb hl ol os ot on
  have HB := Lib.hid hb
  have HIN := Lib.hid (info_parts infoU8)
  have hst1 := (hst.alloc 25 (mdC m)).alloc 44 (opC ⟨pick, layer, seq, time, marker, Ax, cx, bs, now⟩)
  simp only [World.size_alloc] at hst1
  clear hst hb
  go_enter Try.func7, Try.ntmps7
  go_wp2_with fail
  refine (awakeC I _ _ hst1).mono ?_
  clear hst1
  rintro e w1 ⟨_, J, _, rfl, hle, hst1, rfl, rfl⟩
  obtain ⟨hc3, hf3, hlt3⟩ := Blk.all (hst1.at 1 rfl)
  have H1 := Lib.hid hst1
  clear hst1
  go_wp2_with fail
  refine (beginC J _ _ m H1.out).mono ?_
  clear H1 hc3 hf3 hlt3
  rintro e w2 ⟨_, _, _, rfl, hle2, hst2, rfl, p, r, rfl, rfl⟩
  have HLE := Lib.hid hle
  obtain ⟨hcO, hfO, hltO⟩ := Blk.all (hst2.at 2 rfl)
  have hsA := hst2.lit0To (e := 5) rfl
  have HA := Lib.hid hsA
  clear hst2 hle2 hle hsA
  obtain ⟨i0, hi, hz0, hz1, hz2⟩ := HIN.out
  have Hs := Lib.hid ((HB.out.mono HLE.out).src HA.out Try.underlying34 cx)
  go_wp2_with (at_builtin; refine wpList_append_src _ rfl _ _ 34 34 rfl 0 5 i0 (.int .u8 0) 1 1 Try.underlying34 hi hz0 hz1 hz2 rfl _ 0 [] rfl HA.out.head _ _ _ rfl Hs.out (by unfold maxLen; omega) (by omega) (Nat.zero_le _) ?_)
  intro v3 w3 hown hgrow hat
  have hown2 : w3.ownsRow 0 5 1 v3 bs.length (bvs bs) := by simpa using hown
  obtain ⟨A3, c3, rfl⟩ := own_form hown2
  have hs3 := HA.out.grown hgrow hown2 (by simpa using hat)
  have hs4 := hs3.alloc 5 #[.int .u8 77]
  obtain ⟨J4, hle4, hs5, hobj⟩ := hs4.freezeBlk
  have hb77 := Byts.ofBlk (l := [77]) hobj rfl
  have H5 := Lib.hid hs5
  have Hs2 := Lib.hid (hb77.src hs5 Try.underlying34 1)
  have HLE4 := Lib.hid (HLE.out.trans hle4)
  clear HA Hs hcO hfO hltO hown hown2 hgrow hat hs3 hs4 hle4 hs5 hobj hb77
  go_wp2_with (at_builtin; refine wpList_append_src _ rfl _ _ 34 34 rfl 0 5 i0 (.int .u8 0) 1 1 Try.underlying34 hi hz0 hz1 hz2 rfl _ bs.length (bvs bs) rfl H5.out.head _ _ _ rfl Hs2.out (by unfold maxLen; simp; omega) (by simp; omega) (Nat.zero_le _) ?_)
  intro v4 w4 hown hgrow hat
  have hown2 : w4.ownsRow 0 5 1 v4 (bs ++ [77]).length (bvs (bs ++ [77])) := by simpa [bvs_append] using hown
  obtain ⟨A4, c4, rfl⟩ := own_form hown2
  have hs6 := H5.out.grown hgrow hown2 (by simpa using hat)
  have hcap := (own_cap hown2).2
  obtain ⟨J6, hle6, hs7, hby6⟩ := hs6.freezeRow
  have hby6 : Byts J6 A4 (bs ++ [77]) := hby6
  have hby7 := hby6.take bs.length
  rw [List.take_append_of_le_length (Nat.le_refl _), List.take_length] at hby7
  have HBA := Lib.hid hby6
  have HBT := Lib.hid hby7
  have HLE6 := Lib.hid (HLE4.out.trans hle6)
  have hcap2 : (bs.length : Int) + 1 ≤ c4 := by rw [List.length_append] at hcap; simp at hcap; omega
  have hcap3 : bs.length ≤ c4 := by omega
  rw [List.length_append, List.length_singleton]
  obtain ⟨hcO, hfO, hltO⟩ := Blk.all (hs7.at 2 rfl)
  clear hown hown2 hgrow hat hs6 hle6 hby6 hby7 hcap H5 Hs2 HLE4 hi hz0 hz1 hz2
  go_upto_region 5 with fail
  have hs := hs7.drew
  clear hs7 hcO hfO hltO
  refine wp_region_held_drew (S := (fun w' => w'.cell? ⟨w.heap.size + 1, 2, none⟩ = some (.int .u16 seq) ∧ w'.cell? ⟨w.heap.size + 1, 3, none⟩ = some (.int .u32 time) ∧ w'.cell? ⟨w.heap.size + 1, 5, none⟩ = some (.slice Ax bs.length cx))) (by kernel_rfl) (by (try dsimp only); first | exact kKeep (hs.at 2 rfl) | exact kKeep (hs.at 3 rfl) | exact kKeep ((hs.grow _).at 2 rfl)) (fun hHeld => ?_)
  generalize World.drew w4 = W at hs hHeld ⊢
  refine wpAnyH_take (i := 0) (oi := _) (v := ?_) rfl (by kernel_rfl) (by kernel_rfl) (by kernel_rfl) (fun _ _ _ h => h) (Or.inl ⟨by rfl, ?_⟩) (by assumption) ?_
  rotate_left
  · (intro w hSw; (try dsimp only at hSw); go_simp; try with_reducible rfl)
  try simp only [Act.put, List.getElem_toArray, List.getElem_cons_zero, List.getElem_cons_succ, List.setIfInBounds_toArray, List.set_cons_zero, List.set_cons_succ]
  refine wpAnyH_take (i := 1) (oi := _) (v := ?_) rfl (by kernel_rfl) (by kernel_rfl) (by kernel_rfl) (fun _ _ _ h => h) (Or.inl ⟨by rfl, ?_⟩) (by assumption) ?_
  rotate_left
  · (intro w hSw; (try dsimp only at hSw); go_simp; try with_reducible rfl)
  try simp only [Act.put, List.getElem_toArray, List.getElem_cons_zero, List.getElem_cons_succ, List.setIfInBounds_toArray, List.set_cons_zero, List.set_cons_succ]
  refine wpAnyH_take (i := 2) (oi := _) (v := ?_) rfl (by kernel_rfl) (by kernel_rfl) (by kernel_rfl) (fun _ _ _ h => h) (Or.inl ⟨by rfl, ?_⟩) (by assumption) ?_
  rotate_left
  · (intro w hSw; (try dsimp only at hSw); go_simp; try with_reducible rfl)
  try simp only [Act.put, List.getElem_toArray, List.getElem_cons_zero, List.getElem_cons_succ, List.setIfInBounds_toArray, List.set_cons_zero, List.set_cons_succ]
  refine wpAnyH_take (i := 3) (oi := _) (v := ?_) rfl (by kernel_rfl) (by kernel_rfl) (by kernel_rfl) (fun _ _ _ h => h) (Or.inl ⟨by rfl, ?_⟩) (by assumption) ?_
  rotate_left
  · (intro w hSw; (try dsimp only at hSw); go_simp; try with_reducible rfl)
  try simp only [Act.put, List.getElem_toArray, List.getElem_cons_zero, List.getElem_cons_succ, List.setIfInBounds_toArray, List.set_cons_zero, List.set_cons_succ]
  refine wpAnyH_take (i := 4) (oi := _) (v := ?_) rfl (by kernel_rfl) (by kernel_rfl) (by kernel_rfl) (fun _ _ _ h => h) (Or.inl ⟨by rfl, ?_⟩) (by assumption) ?_
  rotate_left
  · (intro w hSw; (try dsimp only at hSw); go_simp; try with_reducible rfl)
  try simp only [Act.put, List.getElem_toArray, List.getElem_cons_zero, List.getElem_cons_succ, List.setIfInBounds_toArray, List.set_cons_zero, List.set_cons_succ]
  refine wpAnyH_take (i := 5) (oi := _) (v := ?_) rfl (by kernel_rfl) (by kernel_rfl) (by kernel_rfl) (fun _ _ _ h => h) (Or.inl ⟨by rfl, ?_⟩) (by assumption) ?_
  rotate_left
  · (intro w hSw; (try dsimp only at hSw); go_simp; try with_reducible rfl)
  try simp only [Act.put, List.getElem_toArray, List.getElem_cons_zero, List.getElem_cons_succ, List.setIfInBounds_toArray, List.set_cons_zero, List.set_cons_succ]
  refine wpAnyH_take (i := 6) (oi := _) (v := ?_) rfl (by kernel_rfl) (by kernel_rfl) (by kernel_rfl) (fun _ _ _ h => h) (Or.inl ⟨by rfl, ?_⟩) (by assumption) ?_
  rotate_left
  · (intro w hSw; (try dsimp only at hSw); go_simp; try with_reducible rfl)
  try simp only [Act.put, List.getElem_toArray, List.getElem_cons_zero, List.getElem_cons_succ, List.setIfInBounds_toArray, List.set_cons_zero, List.set_cons_succ]
  refine wpAnyH_take (i := 7) (oi := _) (v := ?_) rfl (by kernel_rfl) (by kernel_rfl) (by kernel_rfl) (fun _ _ _ h => h) (Or.inl ⟨by rfl, ?_⟩) (by assumption) ?_
  rotate_left
  · (intro w hSw; (try dsimp only at hSw); go_simp; try with_reducible rfl)
  try simp only [Act.put, List.getElem_toArray, List.getElem_cons_zero, List.getElem_cons_succ, List.setIfInBounds_toArray, List.set_cons_zero, List.set_cons_succ]
  refine wpAnyH_take (i := 8) (oi := _) (v := ?_) rfl (by kernel_rfl) (by kernel_rfl) (by kernel_rfl) (fun _ _ _ h => h) (Or.inl ⟨by rfl, ?_⟩) (by assumption) ?_
  rotate_left
  · (intro w hSw; (try dsimp only at hSw); go_simp; try with_reducible rfl)
  try simp only [Act.put, List.getElem_toArray, List.getElem_cons_zero, List.getElem_cons_succ, List.setIfInBounds_toArray, List.set_cons_zero, List.set_cons_succ]
  refine wpAnyH_take (i := 9) (oi := _) (v := ?_) rfl (by kernel_rfl) (by kernel_rfl) (by kernel_rfl) (fun _ _ _ h => h) (Or.inl ⟨by rfl, ?_⟩) (by assumption) ?_
  rotate_left
  · (intro w hSw; (try dsimp only at hSw); go_simp; try with_reducible rfl)
  try simp only [Act.put, List.getElem_toArray, List.getElem_cons_zero, List.getElem_cons_succ, List.setIfInBounds_toArray, List.set_cons_zero, List.set_cons_succ]
  refine wpAnyH_ready (rs := [10]) (by kernel_rfl) (by simp) ?_
  refine (AllReadyH.cons (o := _) rfl (fun K hK => ?_) AllReadyH.nil)
  go_simp
  obtain ⟨q8, hq8⟩ : ∃ n, n = W.heap.size := ⟨_, rfl⟩
  rw [← hq8]
  try clear hHeld
  refine hK.out _ _ (by (try dsimp only); first | exact kKeep (hs.at 2 rfl) | exact kKeep (hs.at 3 rfl) | exact kKeep ((hs.grow _).at 2 rfl)) (fun hHeld => ?_)
  clear hK K
  try simp only [Act.put, List.getElem_toArray, List.getElem_cons_zero, List.getElem_cons_succ, List.setIfInBounds_toArray, List.set_cons_zero, List.set_cons_succ]
  generalize hw : World.alloc W _ = W at hHeld ⊢
  replace hs := hs.alloc1To hw hq8
  clear hw hq8
  refine wpAnyH_ready (rs := [11]) (by kernel_rfl) (by simp) ?_
  refine (AllReadyH.cons (o := _) rfl (fun K hK => ?_) AllReadyH.nil)
  refine step_store_row (by rfl) 38 _ _ (by rfl) q8 (xC ⟨false, 0, seq, time, 0, .slice none 0 0, .slice none 0 0, 0⟩ (.slice A4 bs.length c4)) (by rfl) (by rfl) 38 _ (hs.at 1 rfl) pkI rfl (by simp [Value.oneCell']) ?_
  replace hs := hs.setR1 (xC ⟨false, 0, seq, time, 0, .slice none 0 0, .slice none 0 0, 0⟩ (.slice A4 bs.length c4))
  try clear hHeld
  refine hK.out _ _ (by (try dsimp only); first | exact kKeep (hs.at 2 rfl) | exact kKeep (hs.at 3 rfl) | exact kKeep ((hs.grow _).at 2 rfl)) (fun hHeld => ?_)
  clear hK K
  try simp only [Act.put, List.getElem_toArray, List.getElem_cons_zero, List.getElem_cons_succ, List.setIfInBounds_toArray, List.set_cons_zero, List.set_cons_succ]
  refine wpAnyH_done (by kernel_rfl) ?_ _
  clear hHeld hby6 hcap2
  generalize World.setRow W _ _ = w5 at hs ⊢
  obtain ⟨fr, hfr⟩ : ∃ fr, frS (fl0 m) bs = fr := ⟨_, rfl⟩
  have HFR := Lib.hid hfr
  clear hfr
  obtain ⟨hcO, _, _⟩ := Blk.all (hs.at 3 rfl)
  have hb8 : Blk w5 q8 38 (xC ⟨false, 0, seq, time, 0, .slice none 0 0, .slice none 0 0, 0⟩ (.slice A4 bs.length c4)) := hs.at 1 rfl
  obtain ⟨fs, hd⟩ := pkD
  have H5 := Lib.hid hs
  clear hs
  go_upto_region 7 with (first | refine wpList_load_row rfl 38 (.tmp 8) rfl q8 rfl 38 _ (0, 0) _ hb8 hd rfl pkI ?_ | (go_at_call 11; refine (pushK J6 _ w5 p m ⟨false, 0, seq, time, 0, .slice none 0 0, .slice none 0 0, 0⟩ A4 c4 bs now fr HFR.out H5.out.swap2 HBT.out hl hm ⟨os, ot⟩ on).mono ?_; clear hb8 hcO H5; rintro e w6 ⟨J7, P2, A2, c2, us, ask, rfl, hle7, hs6, hus, hseq⟩; have HSQ := Lib.hid hseq; clear hseq))
  have hs7 := hs6.alloc 38 (xC P2 (.slice A2 us.length c2))
  obtain ⟨q9, hq9⟩ : ∃ n, n = w6.heap.size := ⟨_, rfl⟩
  rw [← hq9] at hs7 ⊢
  generalize World.alloc w6 _ = w7 at hs7 ⊢
  clear hs6 hq9
  obtain ⟨hcO, _, _⟩ := Blk.all (hs7.at 4 rfl)
  have H7 := Lib.hid hs7
  have HLE7 := Lib.hid (HLE6.out.trans hle7)
  have HLJ7 := Lib.hid hle7
  clear hs7 hle7
  go_upto_region 8 with (go_at_call 15; refine (pushRC J7 _ w7 r m ⟨false, 0, seq, time, 0, .slice none 0 0, .slice none 0 0, 0⟩ Ax cx bs now fr HFR.out H7.out.swap3 (HB.out.mono HLE7.out) hl).mono ?_; clear hcO H7; rintro e w8 ⟨_, J8, _, rfl, hle8, hs8, P3, pv3, rfl, hpv, hseq3, rfl⟩; obtain ⟨A8, n8, c8, rfl⟩ : ∃ A8 n8 c8, pv3 = .slice A8 n8 c8 := (by rcases hpv with h | h; exact ⟨none, 0, 0, h⟩; exact h); have HSQ3 := Lib.hid hseq3; clear hseq3 hpv)
  have hs9 := (hs8.alloc 49 (xC P3 (.slice A8 n8 c8))).swap1
  obtain ⟨q12, hq12⟩ : ∃ n, n = w8.heap.size := ⟨_, rfl⟩
  rw [← hq12] at hs9 ⊢
  generalize World.alloc w8 _ = w9 at hs9 ⊢
  have esq : P2.seq = P3.seq := by rw [HSQ.out, HSQ3.out]
  have HES := Lib.hid esq
  clear hs8 hq12 HSQ HSQ3 esq
  obtain ⟨hcX, _, _⟩ := Blk.all (hs9.at 3 rfl)
  have H9 := Lib.hid hs9
  have HLE8 := Lib.hid (HLE7.out.trans hle8)
  have HLJ8 := Lib.hid hle8
  clear hs9 hle8
  go_wp2
  clear hcX
  go_loopw [73] (fun iv wr => ∃ (k : Nat) (vs : List UInt8), k ≤ us.length ∧ vs.length = us.length ∧ iv = .int .i64 k ∧ Hid (St J8 (row 5 1 (.slice A2 us.length c2) us.length (bvs vs) :: bk q12 49 (xC P3 (.slice A8 n8 c8)) :: bk q8 38 (xC ⟨false, 0, seq, time, 0, .slice none 0 0, .slice none 0 0, 0⟩ (.slice A4 bs.length c4)) :: bk q9 38 (xC P2 (.slice A2 us.length c2)) :: bk (w.heap.size + 1) 44 (opC ⟨pick, layer, seq, time, marker, Ax, cx, bs, now⟩) :: bk w.heap.size 25 (mdC m) :: M) wr)) (fun iv _ => us.length - (intOf iv).toNat)
  case atStart => exact ⟨0, us, by omega, rfl, rfl, H9.out⟩
  case round =>
    obtain ⟨k, vs, hk, hvs, rfl, hh⟩ := hrel
    have hs := hh.out
    clear hh H9
    obtain ⟨hcX, _, _⟩ := Blk.all (hs.at 3 rfl)
    by_cases hlt : k < us.length
    · obtain ⟨g, rfl, _, hg, hcell, hfro⟩ := St.rowAt hs (by omega)
      have hz := hcell k (by omega)
      have hfz := hfro k
      obtain ⟨x, hx⟩ : ∃ x, x = vs.getD k 0 := ⟨_, rfl⟩
      rw [← hx] at hz
      have hx1 : (x.toNat : Int) ≤ 255 := by have := x.toNat_lt; omega
      have hy := hs.rowSet k (byteOf (((x.toNat : Int) + 1) % 256))
      have ey : Value.int .u8 ((byteOf (((x.toNat : Int) + 1) % 256)).toNat : Int) = .int .u8 (((x.toNat : Int) + 1) % 256) := bv_byteOf (by omega) (by omega)
      rw [ey] at hy
      have HY := Lib.hid hy
      clear hs hcell hfro hx hy ey
      go_wp2
      go_roundw
      case rel => exact ⟨k + 1, vs.set k (byteOf (((x.toNat : Int) + 1) % 256)), by omega, by simp [hvs], by go_num, HY.out⟩
      case measure => simp [intOf]; omega
    · have hk' : k = us.length := by omega
      subst hk'
      have hlj := HLJ7.out.trans HLJ8.out
      obtain ⟨g4, o4, rfl, hroom⟩ := Byts.at (HBA.out.mono hlj) (by simp)
      have hz77 : wr.cell? ⟨g4, o4 + bs.length, none⟩ = some (.int .u8 77) := by
        have := hroom _ _ hs bs.length (by simp)
        simpa using this
      have hc1 := fun k => (HBT.out.mono hlj).conv (hs.drewN k) Try.underlying34 Try.underlying5 Try.underlying9 c4
      have hc2 := fun k => (HB.out.mono HLE8.out).conv (hs.drewN k) Try.underlying34 Try.underlying5 Try.underlying9 cx
      obtain ⟨hcO, _, _⟩ := Blk.all (hs.at 4 rfl)
      have HS := Lib.hid hs
      clear hcX hs hroom hlj hlt hk hvs
      go_upto_region 13 with fail
      go_quiet (fail)
      have hs13 := HS.out.drewN nq
      clear hc1 hc2 hcO HS hz77
      generalize wr.drewN nq = w13 at hs13 ⊢
      obtain ⟨hcO, _, _⟩ := Blk.all (hs13.at 4 rfl)
      have hb8 : Blk w13 q8 38 (xC ⟨false, 0, seq, time, 0, .slice none 0 0, .slice none 0 0, 0⟩ (.slice (some ⟨g4, o4, none⟩) bs.length c4)) := hs13.at 2 rfl
      have H13 := Lib.hid hs13
      clear hs13
      go_upto_region 17 with (first | refine wpList_load_row rfl 38 (.tmp 8) rfl q8 rfl 38 _ (0, 0) _ hb8 hd rfl pkI ?_ | (go_at_call 12; refine (nilChoose _ 1).mono ?_; rintro e w' ⟨rfl, hw'⟩; subst w') | (go_at_call 11; refine (nilPush J8 _ w13 ⟨false, 0, seq, time, 0, .slice none 0 0, .slice none 0 0, 0⟩ _ 0 now H13.out).mono ?_; clear hb8 hcO H13; rintro e w14 ⟨_, _, _, rfl, hle14, hs14, rfl, rfl, rfl⟩))
      have hs15 := hs14.alloc 38 zeroC
      generalize World.alloc w14 _ = w15 at hs15 ⊢
      clear hs14
      obtain ⟨hcX, _, _⟩ := Blk.all (hs15.at 4 rfl)
      obtain ⟨hcY, _, _⟩ := Blk.all (hs15.at 2 rfl)
      have hx2 : w15.cell? ⟨q9, 2, none⟩ = some (.int .u16 P3.seq) := by rw [hcX, ← HES.out]; rfl
      have H15 := Lib.hid hs15
      clear hcX hs15
      go_wp2_with (go_at_call 16; refine (nilLayer _).mono ?_; rintro e w' ⟨rfl, hw'⟩; subst w')
      go_returns
      exact Ret.mk HLE8.out H15.out.drop.drop.drop.drop.drop.drop.drop ⟨rfl, rfl⟩
end Go.Proofs.Ytaemohkmingnpaa
