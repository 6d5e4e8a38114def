/- the document's reports. -/
import Derived.Test.YtddopbbmgpnjjaaRdB
namespace Go.Proofs.Ytddopbbmgpnjjaa
open Go.RowKit
set_option linter.unusedSimpArgs false

/-- bytes come back that are read only from here on -/
def Frz (I : Img) (M : List Res) (l : List UInt8) (e : Ending) (w' : World) : Prop := ∃ v J', e = .returned v ∧ I.le J' ∧ St J' M w' ∧ RoB l v J'
theorem four_frz (J : Img) (M : List Res) (w : World) (x : Int) (hx : 0 ≤ x ∧ x ≤ 4294967295) (hs : St J M w) : Calls Try.prog 36 #[.int .u32 x] w (Frz J M (u32B x)) :=
  (fourR J M w x hx hs).mono fun _ _ h => newB_ro h
theorem two_frz (J : Img) (M : List Res) (w : World) (x : Int) (hs : St J M w) : Calls Try.prog 39 #[.int .i64 x] w (Frz J M (u16B (x % 65536))) :=
  (twoR J M w x hs).mono fun _ _ h => newB_ro h
theorem wrap_u32 {x : Int} (h0 : 0 ≤ x) (h1 : x ≤ 4294967295) : IntKind.u32.wrap x = x := by
  simp only [IntKind.wrap, IntKind.signed, IntKind.bits]
  simp
  omega
theorem repL_eq (x : Rp) : repL x = u32B x.src ++ (u32B (x.lost * 16777216 + x.total) ++ (u32B x.high ++ (u32B x.jit ++ (u32B x.last ++ u32B x.delay)))) := by
  unfold repL u32Bs repN
  simp
set_option maxRecDepth 8000 in
set_option maxHeartbeats 8000000 in
theorem reportsR (I : Img) (M : List Res) (w : World) (A : Option Addr) (z : Nat) (l : List Rp) (hc : Cells I A (flat repC l)) (hl : l.length ≤ 31) (hok : ∀ x ∈ l, RpOk x) (hst : St I M w) :
    Calls Try.prog 37 #[.slice A l.length z] w (Frz I M (l.flatMap repL)) := by
  have HC := Lib.hid hc
  have HOK := Lib.hid hok
  have HS := Lib.hid hst
  clear hc hok hst
  go_enter Try.func37, Try.ntmps37
  go_upto_region 3 with fail
  go_loopw [3, 8] (fun ov iv wr => ∃ (i : Nat) (ov2 : Value), ov = ov2 ∧ i ≤ l.length ∧ iv = .int .i64 i ∧ Hid (∃ J, I.le J ∧ St J M wr ∧ RoB ((l.take i).flatMap repL) ov2 J)) (fun _ iv _ => l.length - (intOf iv).toNat)
  case atStart => exact ⟨0, _, rfl, by omega, rfl, Lib.hid ⟨I, .refl I, HS.out, RoB.nil I⟩⟩
  case round =>
    obtain ⟨i, ov, rfl, hi, rfl, hh⟩ := hrel
    clear HS
    obtain ⟨J0, hle0, hs0, hro⟩ := hh.out
    clear hh
    by_cases hlt : i < l.length
    · skip
      obtain ⟨g, o, rfl, hcell⟩ := flat_get (s := 7) (fun _ => rfl) (HC.out.mono hle0) (by omega) (by decide)
      have hm := HOK.out _ (List.getElem_mem hlt)
      have hcl := hcell _ _ hs0 i hlt
      have HT := Lib.hid (fm_snoc repL l i hlt)
      have HN := Lib.hid (fm_le (f := repL) (s := 24) (n := 31) repL_len l i hl)
      clear hcell
      generalize l[i] = x at hm hcl HT
      generalize (l.take i).flatMap repL = acc at hro HT HN
      have y0 : wr.cell? ⟨g, o + i * 7, none⟩ = some (.int .u32 x.src) := hcl 0 (by decide)
      have y1 : wr.cell? ⟨g, o + i * 7 + 1, none⟩ = some (.int .u8 x.lost) := hcl 1 (by decide)
      have y2 : wr.cell? ⟨g, o + i * 7 + 2, none⟩ = some (.int .u32 x.total) := hcl 2 (by decide)
      have y3 : wr.cell? ⟨g, o + i * 7 + 3, none⟩ = some (.int .u32 x.high) := hcl 3 (by decide)
      have y4 : wr.cell? ⟨g, o + i * 7 + 4, none⟩ = some (.int .u32 x.jit) := hcl 4 (by decide)
      have y5 : wr.cell? ⟨g, o + i * 7 + 5, none⟩ = some (.int .u32 x.last) := hcl 5 (by decide)
      have y6 : wr.cell? ⟨g, o + i * 7 + 6, none⟩ = some (.int .u32 x.delay) := hcl 6 (by decide)
      have hw1 : IntKind.u32.wrap x.lost = x.lost := wrap_u32 (by have := hm.lost; omega) (by have := hm.lost; omega)
      have hw2 : IntKind.u32.wrap (x.lost * 16777216) = x.lost * 16777216 := wrap_u32 (by have := hm.lost; omega) (by have := hm.lost; omega)
      have hor := or_rep hm.lost hm.total
      obtain ⟨b1, b2⟩ := hm.lost
      obtain ⟨b3, b4⟩ := hm.total
      have HM := Lib.hid hm
      have hs1 := hs0.alloc 64 #[.int .u32 x.src, .int .u8 x.lost, .int .u32 x.total, .int .u32 x.high, .int .u32 x.jit, .int .u32 x.last, .int .u32 x.delay]
      obtain ⟨q, hq⟩ : ∃ q, q = wr.heap.size := ⟨_, rfl⟩
      rw [← hq] at hs1
      have HST := Lib.hid hs1
      have HLE := Lib.hid hle0
      obtain ⟨A0, c0, rfl, hb0⟩ := hro
      have HRO := Lib.hid hb0
      clear hs0 hs1 hle0 hb0 hcl hm
      go_upto_region 6 with fail
      rw [← hq]
      generalize World.alloc wr _ = W at HST ⊢
      clear y0 y1 y2 y3 y4 y5 y6 hq
      have HSS := Lib.hid (fun (J : Img) (w' : World) (_ : J0.le J) (hs : St J (bk q 64 #[.int .u32 x.src, .int .u8 x.lost, .int .u32 x.total, .int .u32 x.high, .int .u32 x.jit, .int .u32 x.last, .int .u32 x.delay] :: M) w') => (show ∀ i, w'.cell? ⟨q, i, none⟩ = (#[.int .u32 x.src, .int .u8 x.lost, .int .u32 x.total, .int .u32 x.high, .int .u32 x.jit, .int .u32 x.last, .int .u32 x.delay] : Array Value)[i]? from (Blk.all (hs.at 0 rfl)).1))
      refine wp_region_held_drew (S := fun w' => ∀ i, w'.cell? ⟨q, i, none⟩ = (#[.int .u32 x.src, .int .u8 x.lost, .int .u32 x.total, .int .u32 x.high, .int .u32 x.jit, .int .u32 x.last, .int .u32 x.delay] : Array Value)[i]?) (by kernel_rfl) (HSS.out _ _ (.refl _) HST.out.drew) (fun hHeld => ?_)
      refine wpAnyH_take (i := 0) (oi := _) (v := ?_) rfl (by kernel_rfl) (by kernel_rfl) (by kernel_rfl) (fun _ _ _ h => h) (Or.inl ⟨by rfl, ?_⟩) (by assumption) ?_
      rotate_left
      · (intro w hSw; (try dsimp only at hSw); go_simp; try with_reducible rfl)
      try simp only [Act.put, List.getElem_toArray, List.getElem_cons_zero, List.getElem_cons_succ, List.setIfInBounds_toArray, List.set_cons_zero, List.set_cons_succ]
      refine wpAnyH_take (i := 1) (oi := _) (v := ?_) rfl (by kernel_rfl) (by kernel_rfl) (by kernel_rfl) (fun _ _ _ h => h) (Or.inl ⟨by rfl, ?_⟩) (by assumption) ?_
      rotate_left
      · (intro w hSw; (try dsimp only at hSw); go_simp; try with_reducible rfl)
      try simp only [Act.put, List.getElem_toArray, List.getElem_cons_zero, List.getElem_cons_succ, List.setIfInBounds_toArray, List.set_cons_zero, List.set_cons_succ]
      refine wpAnyH_take (i := 2) (oi := _) (v := ?_) rfl (by kernel_rfl) (by kernel_rfl) (by kernel_rfl) (fun _ _ _ h => h) (Or.inl ⟨by rfl, ?_⟩) (by assumption) ?_
      rotate_left
      · (intro w hSw; (try dsimp only at hSw); go_simp; try with_reducible rfl)
      try simp only [Act.put, List.getElem_toArray, List.getElem_cons_zero, List.getElem_cons_succ, List.setIfInBounds_toArray, List.set_cons_zero, List.set_cons_succ]
      refine wpAnyH_take (i := 4) (oi := _) (v := ?_) rfl (by kernel_rfl) (by kernel_rfl) (by kernel_rfl) (fun _ _ _ h => h) (Or.inl ⟨by rfl, ?_⟩) (by assumption) ?_
      rotate_left
      · (intro w hSw; (try dsimp only at hSw); go_simp; try with_reducible rfl)
      try simp only [Act.put, List.getElem_toArray, List.getElem_cons_zero, List.getElem_cons_succ, List.setIfInBounds_toArray, List.set_cons_zero, List.set_cons_succ]
      refine wpAnyH_take (i := 5) (oi := _) (v := ?_) rfl (by kernel_rfl) (by kernel_rfl) (by kernel_rfl) (fun _ _ _ h => h) (Or.inl ⟨by rfl, ?_⟩) (by assumption) ?_
      rotate_left
      · (intro w hSw; (try dsimp only at hSw); go_simp; try with_reducible rfl)
      try simp only [Act.put, List.getElem_toArray, List.getElem_cons_zero, List.getElem_cons_succ, List.setIfInBounds_toArray, List.set_cons_zero, List.set_cons_succ]
      refine wpAnyH_take (i := 6) (oi := _) (v := ?_) rfl (by kernel_rfl) (by kernel_rfl) (by kernel_rfl) (fun _ _ _ h => h) (Or.inl ⟨by rfl, ?_⟩) (by assumption) ?_
      rotate_left
      · (intro w hSw; (try dsimp only at hSw); go_simp; try with_reducible rfl)
      try simp only [Act.put, List.getElem_toArray, List.getElem_cons_zero, List.getElem_cons_succ, List.setIfInBounds_toArray, List.set_cons_zero, List.set_cons_succ]
      refine wpAnyH_take (i := 7) (oi := _) (v := ?_) rfl (by kernel_rfl) (by kernel_rfl) (by kernel_rfl) (fun _ _ _ h => h) (Or.inl ⟨by rfl, ?_⟩) (by assumption) ?_
      rotate_left
      · (intro w hSw; (try dsimp only at hSw); go_simp; try with_reducible rfl)
      try simp only [Act.put, List.getElem_toArray, List.getElem_cons_zero, List.getElem_cons_succ, List.setIfInBounds_toArray, List.set_cons_zero, List.set_cons_succ]
      refine wpAnyH_take (i := 8) (oi := _) (v := ?_) rfl (by kernel_rfl) (by kernel_rfl) (by kernel_rfl) (fun _ _ _ h => h) (Or.inl ⟨by rfl, ?_⟩) (by assumption) ?_
      rotate_left
      · (intro w hSw; (try dsimp only at hSw); go_simp; try with_reducible rfl)
      try simp only [Act.put, List.getElem_toArray, List.getElem_cons_zero, List.getElem_cons_succ, List.setIfInBounds_toArray, List.set_cons_zero, List.set_cons_succ]
      refine wpAnyH_take (i := 9) (oi := _) (v := ?_) rfl (by kernel_rfl) (by kernel_rfl) (by kernel_rfl) (fun _ _ _ h => h) (Or.inl ⟨by rfl, ?_⟩) (by assumption) ?_
      rotate_left
      · (intro w hSw; (try dsimp only at hSw); go_simp; try with_reducible rfl)
      try simp only [Act.put, List.getElem_toArray, List.getElem_cons_zero, List.getElem_cons_succ, List.setIfInBounds_toArray, List.set_cons_zero, List.set_cons_succ]
      refine wpAnyH_take (i := 10) (oi := _) (v := ?_) rfl (by kernel_rfl) (by kernel_rfl) (by kernel_rfl) (fun _ _ _ h => h) (Or.inl ⟨by rfl, ?_⟩) (by assumption) ?_
      rotate_left
      · (intro w hSw; (try dsimp only at hSw); go_simp; try with_reducible rfl)
      try simp only [Act.put, List.getElem_toArray, List.getElem_cons_zero, List.getElem_cons_succ, List.setIfInBounds_toArray, List.set_cons_zero, List.set_cons_succ]
      refine wpAnyH_take (i := 12) (oi := _) (v := ?_) rfl (by kernel_rfl) (by kernel_rfl) (by kernel_rfl) (fun _ _ _ h => h) (Or.inl ⟨by rfl, ?_⟩) (by assumption) ?_
      rotate_left
      · (intro w hSw; (try dsimp only at hSw); go_simp; try with_reducible rfl)
      try simp only [Act.put, List.getElem_toArray, List.getElem_cons_zero, List.getElem_cons_succ, List.setIfInBounds_toArray, List.set_cons_zero, List.set_cons_succ]
      refine wpAnyH_take (i := 13) (oi := _) (v := ?_) rfl (by kernel_rfl) (by kernel_rfl) (by kernel_rfl) (fun _ _ _ h => h) (Or.inl ⟨by rfl, ?_⟩) (by assumption) ?_
      rotate_left
      · (intro w hSw; (try dsimp only at hSw); go_simp; try with_reducible rfl)
      try simp only [Act.put, List.getElem_toArray, List.getElem_cons_zero, List.getElem_cons_succ, List.setIfInBounds_toArray, List.set_cons_zero, List.set_cons_succ]
      refine wpAnyH_take (i := 15) (oi := _) (v := ?_) rfl (by kernel_rfl) (by kernel_rfl) (by kernel_rfl) (fun _ _ _ h => h) (Or.inl ⟨by rfl, ?_⟩) (by assumption) ?_
      rotate_left
      · (intro w hSw; (try dsimp only at hSw); go_simp; try with_reducible rfl)
      try simp only [Act.put, List.getElem_toArray, List.getElem_cons_zero, List.getElem_cons_succ, List.setIfInBounds_toArray, List.set_cons_zero, List.set_cons_succ]
      refine wpAnyH_take (i := 16) (oi := _) (v := ?_) rfl (by kernel_rfl) (by kernel_rfl) (by kernel_rfl) (fun _ _ _ h => h) (Or.inl ⟨by rfl, ?_⟩) (by assumption) ?_
      rotate_left
      · (intro w hSw; (try dsimp only at hSw); go_simp; try with_reducible rfl)
      try simp only [Act.put, List.getElem_toArray, List.getElem_cons_zero, List.getElem_cons_succ, List.setIfInBounds_toArray, List.set_cons_zero, List.set_cons_succ]
      refine wpAnyH_take (i := 18) (oi := _) (v := ?_) rfl (by kernel_rfl) (by kernel_rfl) (by kernel_rfl) (fun _ _ _ h => h) (Or.inl ⟨by rfl, ?_⟩) (by assumption) ?_
      rotate_left
      · (intro w hSw; (try dsimp only at hSw); go_simp; try with_reducible rfl)
      try simp only [Act.put, List.getElem_toArray, List.getElem_cons_zero, List.getElem_cons_succ, List.setIfInBounds_toArray, List.set_cons_zero, List.set_cons_succ]
      refine wpAnyH_take (i := 19) (oi := _) (v := ?_) rfl (by kernel_rfl) (by kernel_rfl) (by kernel_rfl) (fun _ _ _ h => h) (Or.inl ⟨by rfl, ?_⟩) (by assumption) ?_
      rotate_left
      · (intro w hSw; (try dsimp only at hSw); go_simp; try with_reducible rfl)
      try simp only [Act.put, List.getElem_toArray, List.getElem_cons_zero, List.getElem_cons_succ, List.setIfInBounds_toArray, List.set_cons_zero, List.set_cons_succ]
      refine wpAnyH_take (i := 21) (oi := _) (v := ?_) rfl (by kernel_rfl) (by kernel_rfl) (by kernel_rfl) (fun _ _ _ h => h) (Or.inl ⟨by rfl, ?_⟩) (by assumption) ?_
      rotate_left
      · (intro w hSw; (try dsimp only at hSw); go_simp; try with_reducible rfl)
      try simp only [Act.put, List.getElem_toArray, List.getElem_cons_zero, List.getElem_cons_succ, List.setIfInBounds_toArray, List.set_cons_zero, List.set_cons_succ]
      refine wpAnyH_take (i := 22) (oi := _) (v := ?_) rfl (by kernel_rfl) (by kernel_rfl) (by kernel_rfl) (fun _ _ _ h => h) (Or.inl ⟨by rfl, ?_⟩) (by assumption) ?_
      rotate_left
      · (intro w hSw; (try dsimp only at hSw); go_simp; try with_reducible rfl)
      try simp only [Act.put, List.getElem_toArray, List.getElem_cons_zero, List.getElem_cons_succ, List.setIfInBounds_toArray, List.set_cons_zero, List.set_cons_succ]
      refine anyH_ro (I := J0) (M := bk q 64 #[.int .u32 x.src, .int .u8 x.lost, .int .u32 x.total, .int .u32 x.high, .int .u32 x.jit, .int .u32 x.last, .int .u32 x.delay] :: M) (l := [(3, 18, u32B x.src), (11, 26, u32B (x.lost * 16777216 + x.total)), (14, 29, u32B x.high), (17, 32, u32B x.jit), (20, 35, u32B x.last), (23, 38, u32B x.delay)]) 3 (by kernel_rfl) (by simp only [List.map_cons, List.map_nil]; decide) (by simp only [List.map_cons, List.map_nil]; decide) HSS.out HST.out.drew ?_ ?_
      · refine List.forall_mem_cons.2 ⟨?_, List.forall_mem_cons.2 ⟨?_, List.forall_mem_cons.2 ⟨?_, List.forall_mem_cons.2 ⟨?_, List.forall_mem_cons.2 ⟨?_, List.forall_mem_cons.2 ⟨?_, fun _ h => by cases h⟩⟩⟩⟩⟩⟩
        · refine CdStep.call (o := _) rfl rfl rfl rfl (fun _ _ => rfl) ?_ (fun J w hle hs => (four_frz J _ w (x.src) (⟨HM.out.src.1, by have := HM.out.src.2; omega⟩) hs).mono (fun _ _ h => h))
          intro xf; simp [Act.over, setAll, Act.eval, hw1, hw2, hor]
        · refine CdStep.call (o := _) rfl rfl rfl rfl (fun _ _ => rfl) ?_ (fun J w hle hs => (four_frz J _ w (x.lost * 16777216 + x.total) (by omega) hs).mono (fun _ _ h => h))
          intro xf; simp [Act.over, setAll, Act.eval, hw1, hw2, hor]
        · refine CdStep.call (o := _) rfl rfl rfl rfl (fun _ _ => rfl) ?_ (fun J w hle hs => (four_frz J _ w (x.high) (⟨HM.out.high.1, by have := HM.out.high.2; omega⟩) hs).mono (fun _ _ h => h))
          intro xf; simp [Act.over, setAll, Act.eval, hw1, hw2, hor]
        · refine CdStep.call (o := _) rfl rfl rfl rfl (fun _ _ => rfl) ?_ (fun J w hle hs => (four_frz J _ w (x.jit) (⟨HM.out.jit.1, by have := HM.out.jit.2; omega⟩) hs).mono (fun _ _ h => h))
          intro xf; simp [Act.over, setAll, Act.eval, hw1, hw2, hor]
        · refine CdStep.call (o := _) rfl rfl rfl rfl (fun _ _ => rfl) ?_ (fun J w hle hs => (four_frz J _ w (x.last) (⟨HM.out.last.1, by have := HM.out.last.2; omega⟩) hs).mono (fun _ _ h => h))
          intro xf; simp [Act.over, setAll, Act.eval, hw1, hw2, hor]
        · refine CdStep.call (o := _) rfl rfl rfl rfl (fun _ _ => rfl) ?_ (fun J w hle hs => (four_frz J _ w (x.delay) (⟨HM.out.delay.1, by have := HM.out.delay.2; omega⟩) hs).mono (fun _ _ h => h))
          intro xf; simp [Act.over, setAll, Act.eval, hw1, hw2, hor]
      · intro xf J w hle hs hx
        have r0 : RoB (u32B x.src) (xf 18) J := hx (3, 18, u32B x.src) (by simp)
        have r1 : RoB (u32B (x.lost * 16777216 + x.total)) (xf 26) J := hx (11, 26, u32B (x.lost * 16777216 + x.total)) (by simp)
        have r2 : RoB (u32B x.high) (xf 29) J := hx (14, 29, u32B x.high) (by simp)
        have r3 : RoB (u32B x.jit) (xf 32) J := hx (17, 32, u32B x.jit) (by simp)
        have r4 : RoB (u32B x.last) (xf 35) J := hx (20, 35, u32B x.last) (by simp)
        have r5 : RoB (u32B x.delay) (xf 38) J := hx (23, 38, u32B x.delay) (by simp)
        simp only [List.map_cons, List.map_nil, Act.over, setAll, List.foldl_cons, List.foldl_nil, List.setIfInBounds_toArray, List.set_cons_zero, List.set_cons_succ]
        generalize xf 18 = v18 at *
        obtain ⟨A18, c18, rfl, b18⟩ := r0
        generalize xf 26 = v26 at *
        obtain ⟨A26, c26, rfl, b26⟩ := r1
        generalize xf 29 = v29 at *
        obtain ⟨A29, c29, rfl, b29⟩ := r2
        generalize xf 32 = v32 at *
        obtain ⟨A32, c32, rfl, b32⟩ := r3
        generalize xf 35 = v35 at *
        obtain ⟨A35, c35, rfl, b35⟩ := r4
        generalize xf 38 = v38 at *
        obtain ⟨A38, c38, rfl, b38⟩ := r5
        clear hx
        refine wpAnyH_ready (rs := [24]) (by kernel_rfl) (by simp) ?_
        refine AllReadyH.cons (o := _) rfl (fun K hK => ?_) AllReadyH.nil
        go_simp
        try clear hHeld
        refine hK.out _ _ (HSS.out J _ hle (hs.grow _)) (fun hHeld => ?_)
        clear hK K
        try simp only [Act.put, List.getElem_toArray, List.getElem_cons_zero, List.getElem_cons_succ, List.setIfInBounds_toArray, List.set_cons_zero, List.set_cons_succ]
        obtain ⟨J2, hle2, hs2, hobj⟩ := (hs.alloc 24 #[.slice A0 acc.length c0, .slice A18 (u32B x.src).length c18, .slice A26 (u32B (x.lost * 16777216 + x.total)).length c26, .slice A29 (u32B x.high).length c29, .slice A32 (u32B x.jit).length c32, .slice A35 (u32B x.last).length c35, .slice A38 (u32B x.delay).length c38]).freezeBlk
        have hcs := Cells.ofBlk hobj
        refine wpAnyH_ready (rs := [25]) (by kernel_rfl) (by simp) ?_
        refine AllReadyH.cons (o := _) rfl (fun K hK => ?_) AllReadyH.nil
        go_simp
        go_at_call 35
        refine (joinR J2 (bk q 64 #[.int .u32 x.src, .int .u8 x.lost, .int .u32 x.total, .int .u32 x.high, .int .u32 x.jit, .int .u32 x.last, .int .u32 x.delay] :: M) _ (some ⟨w.heap.size, 0, none⟩) 7 [acc, u32B x.src, u32B (x.lost * 16777216 + x.total), u32B x.high, u32B x.jit, u32B x.last, u32B x.delay] [.slice A0 acc.length c0, .slice A18 (u32B x.src).length c18, .slice A26 (u32B (x.lost * 16777216 + x.total)).length c26, .slice A29 (u32B x.high).length c29, .slice A32 (u32B x.jit).length c32, .slice A35 (u32B x.last).length c35, .slice A38 (u32B x.delay).length c38] hcs ⟨⟨A0, c0, rfl, (HRO.out.mono hle).mono hle2⟩, ⟨A18, c18, rfl, b18.mono hle2⟩, ⟨A26, c26, rfl, b26.mono hle2⟩, ⟨A29, c29, rfl, b29.mono hle2⟩, ⟨A32, c32, rfl, b32.mono hle2⟩, ⟨A35, c35, rfl, b35.mono hle2⟩, ⟨A38, c38, rfl, b38.mono hle2⟩, trivial⟩ (by simp) (by have := HN.out; simp only [List.flatten_cons, List.flatten_nil, List.length_append, List.length_nil, u32B_len]; omega) hs2).mono ?_
        rintro e w3 ⟨_, _, _, rfl, _, hs3, rfl, A3, c3, rfl, hc3, rfl⟩
        obtain ⟨fl, hfl⟩ : ∃ z : List UInt8, z = ([acc, u32B x.src, u32B (x.lost * 16777216 + x.total), u32B x.high, u32B x.jit, u32B x.last, u32B x.delay] : List (List UInt8)).flatten := ⟨_, rfl⟩
        rw [← hfl] at hs3 hc3 ⊢
        have HFLAT := Lib.hid hfl
        clear hfl
        try clear hHeld
        refine hK.out _ _ (HSS.out J2 _ (hle.trans hle2) hs3.drop) (fun hHeld => ?_)
        clear hK K
        try simp only [Act.put, List.getElem_toArray, List.getElem_cons_zero, List.getElem_cons_succ, List.setIfInBounds_toArray, List.set_cons_zero, List.set_cons_succ]
        refine wpAnyH_take (i := 26) (oi := _) (v := ?_) rfl (by kernel_rfl) (by kernel_rfl) (by kernel_rfl) (fun _ _ _ h => h) (Or.inl ⟨by rfl, ?_⟩) (by assumption) ?_
        rotate_left
        · (intro w hSw; (try dsimp only at hSw); go_simp; try with_reducible rfl)
        try simp only [Act.put, List.getElem_toArray, List.getElem_cons_zero, List.getElem_cons_succ, List.setIfInBounds_toArray, List.set_cons_zero, List.set_cons_succ]
        refine wpAnyH_done (by kernel_rfl) ?_ _
        obtain ⟨J3, hle3, hs4, hb3⟩ := hs3.freezeRow
        have HF := Lib.hid (show St J3 M w3 from hs4.drop)
        have HLE3 := Lib.hid (((HLE.out.trans hle).trans hle2).trans hle3)
        have HB := Lib.hid hb3
        have HFL := Lib.hid (show (l.take (i + 1)).flatMap repL = fl by rw [HT.out, repL_eq, HFLAT.out]; simp)
        clear hs hs2 hs3 hs4 hHeld HFLAT
        go_wp2
        go_roundw
        case rel =>
          refine ⟨i + 1, _, rfl, by omega, by go_num, Lib.hid ⟨J3, HLE3.out, HF.out, ?_⟩⟩
          rw [HFL.out]
          exact ⟨A3, c3, rfl, HB.out⟩
        case measure => simp [intOf]; omega
    · have hin : i = l.length := by omega
      rw [List.take_of_length_le (by omega)] at hro
      obtain ⟨A9, c9, rfl, hb9⟩ := hro
      have HF := Lib.hid (show Frz I M (l.flatMap repL) (.returned (.slice A9 (l.flatMap repL).length c9)) wr from ⟨_, J0, rfl, hle0, hs0, A9, c9, rfl, hb9⟩)
      clear hs0 hb9
      go_wp2
      go_returns
      exact HF.out
end Go.Proofs.Ytddopbbmgpnjjaa
