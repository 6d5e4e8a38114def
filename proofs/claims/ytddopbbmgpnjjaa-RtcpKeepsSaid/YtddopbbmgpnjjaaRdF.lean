/- arrivals' marks: plain. -/
import Derived.Test.YtddopbbmgpnjjaaRdA
namespace Go.Proofs.Ytddopbbmgpnjjaa
open Go.RowKit
set_option linter.unusedSimpArgs false

def roCd (x : Nat × Nat × List UInt8) : Cd := ⟨x.1, x.2.1, RoB x.2.2⟩
theorem map_i (l : List (Nat × Nat × List UInt8)) : (l.map roCd).map (·.i) = l.map (·.1) := by rw [List.map_map]; rfl
theorem map_d (l : List (Nat × Nat × List UInt8)) : (l.map roCd).map (·.d) = l.map (·.2.1) := by rw [List.map_map]; rfl
section
variable {P : Program} {ops : Array Oper} {Q : Exit → Act → World → Prop} {md : Region.Mode} {S : World → Prop}
theorem anyH_ro {I : Img} {M : List Res} {a0 : Act} {L : Array Bool} {l : List (Nat × Nat × List UInt8)} {w0 : World} (fuel : Nat)
    (hok : setOk md ops L (l.map (·.1)) = true) (hnd : (l.map (·.2.1)).Nodup) (hni : (l.map (·.1)).Nodup)
    (hS : ∀ J w, I.le J → St J M w → S w) (hst : St I M w0)
    (hstep : ∀ c ∈ l, CdStep P ops Q I M a0 (l.map (·.2.1)) (roCd c))
    (hend : ∀ (x : Nat → Value) J w, I.le J → St J M w → (∀ c ∈ l, RoB c.2.2 (x c.2.1) J) → wpAnyH P md ops Q S fuel (setAll (fun _ => true) (l.map (·.1)) L) (Act.over a0 (l.map (·.2.1)) x) w) :
    wpAnyH P md ops Q S (fuel + l.length) L a0 w0 := by
  have h := anyH_set (P := P) (ops := ops) (Q := Q) (md := md) (S := S) (I := I) (M := M) (a0 := a0) (L := L) (cs := l.map roCd) (fuel := fuel) (w0 := w0) (by rw [map_i]; exact hok) (by rw [map_d]; exact hnd) (by rw [map_i]; exact hni) hS hst
    (fun c hc v J J' hl hv => by
      obtain ⟨y, _, rfl⟩ := List.mem_map.1 hc
      exact RoB.mono hv hl)
    (fun c hc => by
      obtain ⟨y, hy, rfl⟩ := List.mem_map.1 hc
      rw [map_d]
      exact hstep y hy)
    (fun x J w hle hs hx => by
      rw [map_i, map_d]
      exact hend x J w hle hs (fun c hc => hx (roCd c) (List.mem_map_of_mem hc)))
  rw [List.length_map] at h
  exact h
end
/-- new bytes, frozen -/
theorem newB_ro {J : Img} {M : List Res} {l : List UInt8} {e : Ending} {w' : World} (h : Ret J (NewB J M l) e w') : ∃ v J', e = .returned v ∧ J.le J' ∧ St J' M w' ∧ RoB l v J' := by
  obtain ⟨v, J1, M', rfl, _, hs, rfl, A, c, rfl, _, rfl⟩ := h
  obtain ⟨J2, hle, hs2, hb⟩ := hs.freezeRow
  exact ⟨_, J2, rfl, hle, hs2, A, c, rfl, hb⟩
end Go.Proofs.Ytddopbbmgpnjjaa
namespace Go.Proofs.Ytddopbbmgpnjjaa
open Go.RowKit
set_option linter.unusedSimpArgs false

/-- bytes come back that are read only from here on -/
def Frz (I : Img) (M : List Res) (l : List UInt8) (e : Ending) (w' : World) : Prop := ∃ v J', e = .returned v ∧ I.le J' ∧ St J' M w' ∧ RoB l v J'
theorem four_frz (J : Img) (M : List Res) (w : World) (x : Int) (hx : 0 ≤ x ∧ x ≤ 4294967295) (hs : St J M w) : Calls Try.prog 36 #[.int .u32 x] w (Frz J M (u32B x)) :=
  (fourR J M w x hx hs).mono fun _ _ h => newB_ro h
theorem two_frz (J : Img) (M : List Res) (w : World) (x : Int) (hs : St J M w) : Calls Try.prog 39 #[.int .i64 x] w (Frz J M (u16B (x % 65536))) :=
  (twoR J M w x hs).mono fun _ _ h => newB_ro h
theorem wrap_u32 {x : Int} (h0 : 0 ≤ x) (h1 : x ≤ 4294967295) : IntKind.u32.wrap x = x := by
  simp only [IntKind.wrap, IntKind.signed, IntKind.bits]
  simp
  omega
theorem repL_eq (x : Rp) : repL x = u32B x.src ++ (u32B (x.lost * 16777216 + x.total) ++ (u32B x.high ++ (u32B x.jit ++ (u32B x.last ++ u32B x.delay)))) := by
  unfold repL u32Bs repN
  simp
set_option maxRecDepth 8000 in
set_option maxHeartbeats 8000000 in
theorem reportsR (I : Img) (M : List Res) (w : World) (A : Option Addr) (z : Nat) (l : List Rp) (hc : Cells I A (flat repC l)) (hl : l.length ≤ 31) (hok : ∀ x ∈ l, RpOk x) (hst : St I M w) :
    Calls Try.prog 37 #[.slice A l.length z] w (Frz I M (l.flatMap repL)) := by
  have HC := Lib.hid hc
  have HOK := Lib.hid hok
  have HS := Lib.hid hst
  clear hc hok hst
  go_enter Try.func37, Try.ntmps37
  go_upto_region 3 with fail
  go_loopw [3, 8] (fun ov iv wr => ∃ (i : Nat) (ov2 : Value), ov = ov2 ∧ i ≤ l.length ∧ iv = .int .i64 i ∧ Hid (∃ J, I.le J ∧ St J M wr ∧ RoB ((l.take i).flatMap repL) ov2 J)) (fun _ iv _ => l.length - (intOf iv).toNat)
  case atStart => exact ⟨0, _, rfl, by omega, rfl, Lib.hid ⟨I, .refl I, HS.out, RoB.nil I⟩⟩
  case round =>
    obtain ⟨i, ov, rfl, hi, rfl, hh⟩ := hrel
    clear HS
    obtain ⟨J0, hle0, hs0, hro⟩ := hh.out
    clear hh
    by_cases hlt : i < l.length
    · skip
      obtain ⟨g, o, rfl, hcell⟩ := flat_get (s := 7) (fun _ => rfl) (HC.out.mono hle0) (by omega) (by decide)
      have hm := HOK.out _ (List.getElem_mem hlt)
      have hcl := hcell _ _ hs0 i hlt
      have HT := Lib.hid (fm_snoc repL l i hlt)
      have HN := Lib.hid (fm_le (f := repL) (s := 24) (n := 31) repL_len l i hl)
      clear hcell
      generalize l[i] = x at hm hcl HT
      generalize (l.take i).flatMap repL = acc at hro HT HN
      have y0 : wr.cell? ⟨g, o + i * 7, none⟩ = some (.int .u32 x.src) := hcl 0 (by decide)
      have y1 : wr.cell? ⟨g, o + i * 7 + 1, none⟩ = some (.int .u8 x.lost) := hcl 1 (by decide)
      have y2 : wr.cell? ⟨g, o + i * 7 + 2, none⟩ = some (.int .u32 x.total) := hcl 2 (by decide)
      have y3 : wr.cell? ⟨g, o + i * 7 + 3, none⟩ = some (.int .u32 x.high) := hcl 3 (by decide)
      have y4 : wr.cell? ⟨g, o + i * 7 + 4, none⟩ = some (.int .u32 x.jit) := hcl 4 (by decide)
      have y5 : wr.cell? ⟨g, o + i * 7 + 5, none⟩ = some (.int .u32 x.last) := hcl 5 (by decide)
      have y6 : wr.cell? ⟨g, o + i * 7 + 6, none⟩ = some (.int .u32 x.delay) := hcl 6 (by decide)
      have hw1 : IntKind.u32.wrap x.lost = x.lost := wrap_u32 (by have := hm.lost; omega) (by have := hm.lost; omega)
      have hw2 : IntKind.u32.wrap (x.lost * 16777216) = x.lost * 16777216 := wrap_u32 (by have := hm.lost; omega) (by have := hm.lost; omega)
      have hor := or_rep hm.lost hm.total
      obtain ⟨b1, b2⟩ := hm.lost
      obtain ⟨b3, b4⟩ := hm.total
      have HM := Lib.hid hm
      have hs1 := hs0.alloc 64 #[.int .u32 x.src, .int .u8 x.lost, .int .u32 x.total, .int .u32 x.high, .int .u32 x.jit, .int .u32 x.last, .int .u32 x.delay]
      obtain ⟨q, hq⟩ : ∃ q, q = wr.heap.size := ⟨_, rfl⟩
      rw [← hq] at hs1
      have HST := Lib.hid hs1
      have HLE := Lib.hid hle0
      obtain ⟨A0, c0, rfl, hb0⟩ := hro
      have HRO := Lib.hid hb0
      clear hs0 hs1 hle0 hb0 hcl hm
      go_upto_region 6 with fail
      rw [← hq]
      generalize World.alloc wr _ = W at HST ⊢
      clear y0 y1 y2 y3 y4 y5 y6 hq
      have HSS := Lib.hid (fun (J : Img) (w' : World) (_ : J0.le J) (hs : St J (bk q 64 #[.int .u32 x.src, .int .u8 x.lost, .int .u32 x.total, .int .u32 x.high, .int .u32 x.jit, .int .u32 x.last, .int .u32 x.delay] :: M) w') => (show ∀ i, w'.cell? ⟨q, i, none⟩ = (#[.int .u32 x.src, .int .u8 x.lost, .int .u32 x.total, .int .u32 x.high, .int .u32 x.jit, .int .u32 x.last, .int .u32 x.delay] : Array Value)[i]? from (Blk.all (hs.at 0 rfl)).1))
      refine wp_region_held_drew (S := fun w' => ∀ i, w'.cell? ⟨q, i, none⟩ = (#[.int .u32 x.src, .int .u8 x.lost, .int .u32 x.total, .int .u32 x.high, .int .u32 x.jit, .int .u32 x.last, .int .u32 x.delay] : Array Value)[i]?) (by kernel_rfl) (HSS.out _ _ (.refl _) HST.out.drew) (fun hHeld => ?_)
      refine wpAnyH_take (i := 0) (oi := _) (v := ?_) rfl (by kernel_rfl) (by kernel_rfl) (by kernel_rfl) (fun _ _ _ h => h) (Or.inl ⟨by rfl, ?_⟩) (by assumption) ?_
      rotate_left
      · (intro w hSw; (try dsimp only at hSw); go_simp; try with_reducible rfl)
      try simp only [Act.put, List.getElem_toArray, List.getElem_cons_zero, List.getElem_cons_succ, List.setIfInBounds_toArray, List.set_cons_zero, List.set_cons_succ]
      refine wpAnyH_take (i := 1) (oi := _) (v := ?_) rfl (by kernel_rfl) (by kernel_rfl) (by kernel_rfl) (fun _ _ _ h => h) (Or.inl ⟨by rfl, ?_⟩) (by assumption) ?_
      rotate_left
      · (intro w hSw; (try dsimp only at hSw); go_simp; try with_reducible rfl)
      try simp only [Act.put, List.getElem_toArray, List.getElem_cons_zero, List.getElem_cons_succ, List.setIfInBounds_toArray, List.set_cons_zero, List.set_cons_succ]
      refine wpAnyH_take (i := 2) (oi := _) (v := ?_) rfl (by kernel_rfl) (by kernel_rfl) (by kernel_rfl) (fun _ _ _ h => h) (Or.inl ⟨by rfl, ?_⟩) (by assumption) ?_
      rotate_left
      · (intro w hSw; (try dsimp only at hSw); go_simp; try with_reducible rfl)
      try simp only [Act.put, List.getElem_toArray, List.getElem_cons_zero, List.getElem_cons_succ, List.setIfInBounds_toArray, List.set_cons_zero, List.set_cons_succ]
      refine wpAnyH_take (i := 4) (oi := _) (v := ?_) rfl (by kernel_rfl) (by kernel_rfl) (by kernel_rfl) (fun _ _ _ h => h) (Or.inl ⟨by rfl, ?_⟩) (by assumption) ?_
      rotate_left
      · (intro w hSw; (try dsimp only at hSw); go_simp; try with_reducible rfl)
      try simp only [Act.put, List.getElem_toArray, List.getElem_cons_zero, List.getElem_cons_succ, List.setIfInBounds_toArray, List.set_cons_zero, List.set_cons_succ]
      refine wpAnyH_take (i := 5) (oi := _) (v := ?_) rfl (by kernel_rfl) (by kernel_rfl) (by kernel_rfl) (fun _ _ _ h => h) (Or.inl ⟨by rfl, ?_⟩) (by assumption) ?_
      rotate_left
      · (intro w hSw; (try dsimp only at hSw); go_simp; try with_reducible rfl)
      try simp only [Act.put, List.getElem_toArray, List.getElem_cons_zero, List.getElem_cons_succ, List.setIfInBounds_toArray, List.set_cons_zero, List.set_cons_succ]
      refine wpAnyH_take (i := 6) (oi := _) (v := ?_) rfl (by kernel_rfl) (by kernel_rfl) (by kernel_rfl) (fun _ _ _ h => h) (Or.inl ⟨by rfl, ?_⟩) (by assumption) ?_
      rotate_left
      · (intro w hSw; (try dsimp only at hSw); go_simp; try with_reducible rfl)
      try simp only [Act.put, List.getElem_toArray, List.getElem_cons_zero, List.getElem_cons_succ, List.setIfInBounds_toArray, List.set_cons_zero, List.set_cons_succ]
      refine wpAnyH_take (i := 7) (oi := _) (v := ?_) rfl (by kernel_rfl) (by kernel_rfl) (by kernel_rfl) (fun _ _ _ h => h) (Or.inl ⟨by rfl, ?_⟩) (by assumption) ?_
      rotate_left
      · (intro w hSw; (try dsimp only at hSw); go_simp; try with_reducible rfl)
      try simp only [Act.put, List.getElem_toArray, List.getElem_cons_zero, List.getElem_cons_succ, List.setIfInBounds_toArray, List.set_cons_zero, List.set_cons_succ]
      refine wpAnyH_take (i := 8) (oi := _) (v := ?_) rfl (by kernel_rfl) (by kernel_rfl) (by kernel_rfl) (fun _ _ _ h => h) (Or.inl ⟨by rfl, ?_⟩) (by assumption) ?_
      rotate_left
      · (intro w hSw; (try dsimp only at hSw); go_simp; try with_reducible rfl)
      try simp only [Act.put, List.getElem_toArray, List.getElem_cons_zero, List.getElem_cons_succ, List.setIfInBounds_toArray, List.set_cons_zero, List.set_cons_succ]
      refine wpAnyH_take (i := 9) (oi := _) (v := ?_) rfl (by kernel_rfl) (by kernel_rfl) (by kernel_rfl) (fun _ _ _ h => h) (Or.inl ⟨by rfl, ?_⟩) (by assumption) ?_
      rotate_left
      · (intro w hSw; (try dsimp only at hSw); go_simp; try with_reducible rfl)
      try simp only [Act.put, List.getElem_toArray, List.getElem_cons_zero, List.getElem_cons_succ, List.setIfInBounds_toArray, List.set_cons_zero, List.set_cons_succ]
      refine wpAnyH_take (i := 10) (oi := _) (v := ?_) rfl (by kernel_rfl) (by kernel_rfl) (by kernel_rfl) (fun _ _ _ h => h) (Or.inl ⟨by rfl, ?_⟩) (by assumption) ?_
      rotate_left
      · (intro w hSw; (try dsimp only at hSw); go_simp; try with_reducible rfl)
      try simp only [Act.put, List.getElem_toArray, List.getElem_cons_zero, List.getElem_cons_succ, List.setIfInBounds_toArray, List.set_cons_zero, List.set_cons_succ]
      refine wpAnyH_take (i := 12) (oi := _) (v := ?_) rfl (by kernel_rfl) (by kernel_rfl) (by kernel_rfl) (fun _ _ _ h => h) (Or.inl ⟨by rfl, ?_⟩) (by assumption) ?_
      rotate_left
      · (intro w hSw; (try dsimp only at hSw); go_simp; try with_reducible rfl)
      try simp only [Act.put, List.getElem_toArray, List.getElem_cons_zero, List.getElem_cons_succ, List.setIfInBounds_toArray, List.set_cons_zero, List.set_cons_succ]
      refine wpAnyH_take (i := 13) (oi := _) (v := ?_) rfl (by kernel_rfl) (by kernel_rfl) (by kernel_rfl) (fun _ _ _ h => h) (Or.inl ⟨by rfl, ?_⟩) (by assumption) ?_
      rotate_left
      · (intro w hSw; (try dsimp only at hSw); go_simp; try with_reducible rfl)
      try simp only [Act.put, List.getElem_toArray, List.getElem_cons_zero, List.getElem_cons_succ, List.setIfInBounds_toArray, List.set_cons_zero, List.set_cons_succ]
      refine wpAnyH_take (i := 15) (oi := _) (v := ?_) rfl (by kernel_rfl) (by kernel_rfl) (by kernel_rfl) (fun _ _ _ h => h) (Or.inl ⟨by rfl, ?_⟩) (by assumption) ?_
      rotate_left
      · (intro w hSw; (try dsimp only at hSw); go_simp; try with_reducible rfl)
      try simp only [Act.put, List.getElem_toArray, List.getElem_cons_zero, List.getElem_cons_succ, List.setIfInBounds_toArray, List.set_cons_zero, List.set_cons_succ]
      refine wpAnyH_take (i := 16) (oi := _) (v := ?_) rfl (by kernel_rfl) (by kernel_rfl) (by kernel_rfl) (fun _ _ _ h => h) (Or.inl ⟨by rfl, ?_⟩) (by assumption) ?_
      rotate_left
      · (intro w hSw; (try dsimp only at hSw); go_simp; try with_reducible rfl)
      try simp only [Act.put, List.getElem_toArray, List.getElem_cons_zero, List.getElem_cons_succ, List.setIfInBounds_toArray, List.set_cons_zero, List.set_cons_succ]
      refine wpAnyH_take (i := 18) (oi := _) (v := ?_) rfl (by kernel_rfl) (by kernel_rfl) (by kernel_rfl) (fun _ _ _ h => h) (Or.inl ⟨by rfl, ?_⟩) (by assumption) ?_
      rotate_left
      · (intro w hSw; (try dsimp only at hSw); go_simp; try with_reducible rfl)
      try simp only [Act.put, List.getElem_toArray, List.getElem_cons_zero, List.getElem_cons_succ, List.setIfInBounds_toArray, List.set_cons_zero, List.set_cons_succ]
      refine wpAnyH_take (i := 19) (oi := _) (v := ?_) rfl (by kernel_rfl) (by kernel_rfl) (by kernel_rfl) (fun _ _ _ h => h) (Or.inl ⟨by rfl, ?_⟩) (by assumption) ?_
      rotate_left
      · (intro w hSw; (try dsimp only at hSw); go_simp; try with_reducible rfl)
      try simp only [Act.put, List.getElem_toArray, List.getElem_cons_zero, List.getElem_cons_succ, List.setIfInBounds_toArray, List.set_cons_zero, List.set_cons_succ]
      refine wpAnyH_take (i := 21) (oi := _) (v := ?_) rfl (by kernel_rfl) (by kernel_rfl) (by kernel_rfl) (fun _ _ _ h => h) (Or.inl ⟨by rfl, ?_⟩) (by assumption) ?_
      rotate_left
      · (intro w hSw; (try dsimp only at hSw); go_simp; try with_reducible rfl)
      try simp only [Act.put, List.getElem_toArray, List.getElem_cons_zero, List.getElem_cons_succ, List.setIfInBounds_toArray, List.set_cons_zero, List.set_cons_succ]
      refine wpAnyH_take (i := 22) (oi := _) (v := ?_) rfl (by kernel_rfl) (by kernel_rfl) (by kernel_rfl) (fun _ _ _ h => h) (Or.inl ⟨by rfl, ?_⟩) (by assumption) ?_
      rotate_left
      · (intro w hSw; (try dsimp only at hSw); go_simp; try with_reducible rfl)
      try simp only [Act.put, List.getElem_toArray, List.getElem_cons_zero, List.getElem_cons_succ, List.setIfInBounds_toArray, List.set_cons_zero, List.set_cons_succ]
      refine anyH_ro (I := J0) (M := bk q 64 #[.int .u32 x.src, .int .u8 x.lost, .int .u32 x.total, .int .u32 x.high, .int .u32 x.jit, .int .u32 x.last, .int .u32 x.delay] :: M) (l := [(3, 18, u32B x.src), (11, 26, u32B (x.lost * 16777216 + x.total)), (14, 29, u32B x.high), (17, 32, u32B x.jit), (20, 35, u32B x.last), (23, 38, u32B x.delay)]) 3 (by kernel_rfl) (by simp only [List.map_cons, List.map_nil]; decide) (by simp only [List.map_cons, List.map_nil]; decide) HSS.out HST.out.drew ?_ ?_
      · refine List.forall_mem_cons.2 ⟨?_, List.forall_mem_cons.2 ⟨?_, List.forall_mem_cons.2 ⟨?_, List.forall_mem_cons.2 ⟨?_, List.forall_mem_cons.2 ⟨?_, List.forall_mem_cons.2 ⟨?_, fun _ h => by cases h⟩⟩⟩⟩⟩⟩
        · refine CdStep.call (o := _) rfl rfl rfl rfl (fun _ _ => rfl) ?_ (fun J w hle hs => (four_frz J _ w (x.src) (⟨HM.out.src.1, by have := HM.out.src.2; omega⟩) hs).mono (fun _ _ h => h))
          intro xf; simp [Act.over, setAll, Act.eval, hw1, hw2, hor]
        · refine CdStep.call (o := _) rfl rfl rfl rfl (fun _ _ => rfl) ?_ (fun J w hle hs => (four_frz J _ w (x.lost * 16777216 + x.total) (by omega) hs).mono (fun _ _ h => h))
          intro xf; simp [Act.over, setAll, Act.eval, hw1, hw2, hor]
        · refine CdStep.call (o := _) rfl rfl rfl rfl (fun _ _ => rfl) ?_ (fun J w hle hs => (four_frz J _ w (x.high) (⟨HM.out.high.1, by have := HM.out.high.2; omega⟩) hs).mono (fun _ _ h => h))
          intro xf; simp [Act.over, setAll, Act.eval, hw1, hw2, hor]
        · refine CdStep.call (o := _) rfl rfl rfl rfl (fun _ _ => rfl) ?_ (fun J w hle hs => (four_frz J _ w (x.jit) (⟨HM.out.jit.1, by have := HM.out.jit.2; omega⟩) hs).mono (fun _ _ h => h))
          intro xf; simp [Act.over, setAll, Act.eval, hw1, hw2, hor]
        · refine CdStep.call (o := _) rfl rfl rfl rfl (fun _ _ => rfl) ?_ (fun J w hle hs => (four_frz J _ w (x.last) (⟨HM.out.last.1, by have := HM.out.last.2; omega⟩) hs).mono (fun _ _ h => h))
          intro xf; simp [Act.over, setAll, Act.eval, hw1, hw2, hor]
        · refine CdStep.call (o := _) rfl rfl rfl rfl (fun _ _ => rfl) ?_ (fun J w hle hs => (four_frz J _ w (x.delay) (⟨HM.out.delay.1, by have := HM.out.delay.2; omega⟩) hs).mono (fun _ _ h => h))
          intro xf; simp [Act.over, setAll, Act.eval, hw1, hw2, hor]
      · intro xf J w hle hs hx
        have r0 : RoB (u32B x.src) (xf 18) J := hx (3, 18, u32B x.src) (by simp)
        have r1 : RoB (u32B (x.lost * 16777216 + x.total)) (xf 26) J := hx (11, 26, u32B (x.lost * 16777216 + x.total)) (by simp)
        have r2 : RoB (u32B x.high) (xf 29) J := hx (14, 29, u32B x.high) (by simp)
        have r3 : RoB (u32B x.jit) (xf 32) J := hx (17, 32, u32B x.jit) (by simp)
        have r4 : RoB (u32B x.last) (xf 35) J := hx (20, 35, u32B x.last) (by simp)
        have r5 : RoB (u32B x.delay) (xf 38) J := hx (23, 38, u32B x.delay) (by simp)
        simp only [List.map_cons, List.map_nil, Act.over, setAll, List.foldl_cons, List.foldl_nil, List.setIfInBounds_toArray, List.set_cons_zero, List.set_cons_succ]
        generalize xf 18 = v18 at *
        obtain ⟨A18, c18, rfl, b18⟩ := r0
        generalize xf 26 = v26 at *
        obtain ⟨A26, c26, rfl, b26⟩ := r1
        generalize xf 29 = v29 at *
        obtain ⟨A29, c29, rfl, b29⟩ := r2
        generalize xf 32 = v32 at *
        obtain ⟨A32, c32, rfl, b32⟩ := r3
        generalize xf 35 = v35 at *
        obtain ⟨A35, c35, rfl, b35⟩ := r4
        generalize xf 38 = v38 at *
        obtain ⟨A38, c38, rfl, b38⟩ := r5
        clear hx
        refine wpAnyH_ready (rs := [24]) (by kernel_rfl) (by simp) ?_
        refine AllReadyH.cons (o := _) rfl (fun K hK => ?_) AllReadyH.nil
        go_simp
        try clear hHeld
        refine hK.out _ _ (HSS.out J _ hle (hs.grow _)) (fun hHeld => ?_)
        clear hK K
        try simp only [Act.put, List.getElem_toArray, List.getElem_cons_zero, List.getElem_cons_succ, List.setIfInBounds_toArray, List.set_cons_zero, List.set_cons_succ]
        obtain ⟨J2, hle2, hs2, hobj⟩ := (hs.alloc 24 #[.slice A0 acc.length c0, .slice A18 (u32B x.src).length c18, .slice A26 (u32B (x.lost * 16777216 + x.total)).length c26, .slice A29 (u32B x.high).length c29, .slice A32 (u32B x.jit).length c32, .slice A35 (u32B x.last).length c35, .slice A38 (u32B x.delay).length c38]).freezeBlk
        have hcs := Cells.ofBlk hobj
        refine wpAnyH_ready (rs := [25]) (by kernel_rfl) (by simp) ?_
        refine AllReadyH.cons (o := _) rfl (fun K hK => ?_) AllReadyH.nil
        go_simp
        go_at_call 35
        refine (joinR J2 (bk q 64 #[.int .u32 x.src, .int .u8 x.lost, .int .u32 x.total, .int .u32 x.high, .int .u32 x.jit, .int .u32 x.last, .int .u32 x.delay] :: M) _ (some ⟨w.heap.size, 0, none⟩) 7 [acc, u32B x.src, u32B (x.lost * 16777216 + x.total), u32B x.high, u32B x.jit, u32B x.last, u32B x.delay] [.slice A0 acc.length c0, .slice A18 (u32B x.src).length c18, .slice A26 (u32B (x.lost * 16777216 + x.total)).length c26, .slice A29 (u32B x.high).length c29, .slice A32 (u32B x.jit).length c32, .slice A35 (u32B x.last).length c35, .slice A38 (u32B x.delay).length c38] hcs ⟨⟨A0, c0, rfl, (HRO.out.mono hle).mono hle2⟩, ⟨A18, c18, rfl, b18.mono hle2⟩, ⟨A26, c26, rfl, b26.mono hle2⟩, ⟨A29, c29, rfl, b29.mono hle2⟩, ⟨A32, c32, rfl, b32.mono hle2⟩, ⟨A35, c35, rfl, b35.mono hle2⟩, ⟨A38, c38, rfl, b38.mono hle2⟩, trivial⟩ (by simp) (by have := HN.out; simp only [List.flatten_cons, List.flatten_nil, List.length_append, List.length_nil, u32B_len]; omega) hs2).mono ?_
        rintro e w3 ⟨_, _, _, rfl, _, hs3, rfl, A3, c3, rfl, hc3, rfl⟩
        obtain ⟨fl, hfl⟩ : ∃ z : List UInt8, z = ([acc, u32B x.src, u32B (x.lost * 16777216 + x.total), u32B x.high, u32B x.jit, u32B x.last, u32B x.delay] : List (List UInt8)).flatten := ⟨_, rfl⟩
        rw [← hfl] at hs3 hc3 ⊢
        have HFLAT := Lib.hid hfl
        clear hfl
        try clear hHeld
        refine hK.out _ _ (HSS.out J2 _ (hle.trans hle2) hs3.drop) (fun hHeld => ?_)
        clear hK K
        try simp only [Act.put, List.getElem_toArray, List.getElem_cons_zero, List.getElem_cons_succ, List.setIfInBounds_toArray, List.set_cons_zero, List.set_cons_succ]
        refine wpAnyH_take (i := 26) (oi := _) (v := ?_) rfl (by kernel_rfl) (by kernel_rfl) (by kernel_rfl) (fun _ _ _ h => h) (Or.inl ⟨by rfl, ?_⟩) (by assumption) ?_
        rotate_left
        · (intro w hSw; (try dsimp only at hSw); go_simp; try with_reducible rfl)
        try simp only [Act.put, List.getElem_toArray, List.getElem_cons_zero, List.getElem_cons_succ, List.setIfInBounds_toArray, List.set_cons_zero, List.set_cons_succ]
        refine wpAnyH_done (by kernel_rfl) ?_ _
        obtain ⟨J3, hle3, hs4, hb3⟩ := hs3.freezeRow
        have HF := Lib.hid (show St J3 M w3 from hs4.drop)
        have HLE3 := Lib.hid (((HLE.out.trans hle).trans hle2).trans hle3)
        have HB := Lib.hid hb3
        have HFL := Lib.hid (show (l.take (i + 1)).flatMap repL = fl by rw [HT.out, repL_eq, HFLAT.out]; simp)
        clear hs hs2 hs3 hs4 hHeld HFLAT
        go_wp2
        go_roundw
        case rel =>
          refine ⟨i + 1, _, rfl, by omega, by go_num, Lib.hid ⟨J3, HLE3.out, HF.out, ?_⟩⟩
          rw [HFL.out]
          exact ⟨A3, c3, rfl, HB.out⟩
        case measure => simp [intOf]; omega
    · have hin : i = l.length := by omega
      rw [List.take_of_length_le (by omega)] at hro
      obtain ⟨A9, c9, rfl, hb9⟩ := hro
      have HF := Lib.hid (show Frz I M (l.flatMap repL) (.returned (.slice A9 (l.flatMap repL).length c9)) wr from ⟨_, J0, rfl, hle0, hs0, A9, c9, rfl, hb9⟩)
      clear hs0 hb9
      go_wp2
      go_returns
      exact HF.out
end Go.Proofs.Ytddopbbmgpnjjaa
namespace Go.Proofs.Ytddopbbmgpnjjaa
open Go.RowKit
set_option linter.unusedSimpArgs false

theorem filter_drop {α : Type} (p : α → Bool) : ∀ (r : List α), (∀ a b (_ : a < b) (hb : b < r.length), p r[b] = true → p (r[a]'(by omega)) = true) →
    ∃ m, m ≤ r.length ∧ r.filter (fun x => !p x) = r.drop m ∧ ∀ j (h : j < r.length), p r[j] = decide (j < m)
  | [], _ => ⟨0, Nat.le_refl _, rfl, fun _ h => absurd h (Nat.not_lt_zero _)⟩
  | x :: t, ha => by
    obtain ⟨m, hm, hf, hp⟩ := filter_drop p t (fun a b hab hb h => ha (a + 1) (b + 1) (by omega) (by simpa using hb) h)
    cases hx : p x
    · have hn : ∀ j (h : j < t.length), p t[j] = false := fun j h => by
        cases e : p t[j]
        · rfl
        · have := ha 0 (j + 1) (by omega) (by simpa using h) e
          rw [List.getElem_cons_zero, hx] at this
          cases this
      refine ⟨0, Nat.zero_le _, ?_, fun j h => ?_⟩
      · rw [List.filter_cons, hx]
        simp only [Bool.not_false, if_true, List.drop_zero]
        congr 1
        rw [List.filter_eq_self]
        intro y hy
        obtain ⟨j, hj, rfl⟩ := List.getElem_of_mem hy
        rw [hn j hj]; rfl
      · cases j with
        | zero => rw [List.getElem_cons_zero, hx]; rfl
        | succ j => rw [List.getElem_cons_succ, hn j (by simpa using h)]; rfl
    · refine ⟨m + 1, by simpa using hm, ?_, fun j h => ?_⟩
      · rw [List.filter_cons, hx]
        simp only [Bool.not_true, Bool.false_eq_true, if_false, List.drop_succ_cons]
        exact hf
      · cases j with
        | zero => rw [List.getElem_cons_zero, hx]; simp
        | succ j => rw [List.getElem_cons_succ, hp j (by simpa using h)]; simp
/-- how far behind the first one -/
def farF (l : List Int) (k : Nat) : Int := (l.getD k 0 - l.getD 0 0) % 65536
theorem farF_step {l : List Int} (h : Ord l) (k : Nat) (hk : k + 1 < l.length) : farF l k < farF l (k + 1) ∧ farF l (k + 1) < 32768 := by
  have h1 : ∀ j (_ : j < l.length), 0 < j → 0 < farF l j ∧ farF l j < 32768 := fun j hj h0 => by
    have := (h j hj h0).2
    unfold beforeB at this
    simp only [Bool.and_eq_true, decide_eq_true_eq] at this
    unfold farF
    rw [List.getD_eq_getElem?_getD, List.getD_eq_getElem?_getD, List.getElem?_eq_getElem hj, List.getElem?_eq_getElem (by omega)]
    exact this
  have h2 := (h (k + 1) hk (by omega)).1
  unfold beforeB at h2
  simp only [Bool.and_eq_true, decide_eq_true_eq, Nat.add_sub_cancel] at h2
  have h3 := h1 (k + 1) hk (by omega)
  have h4 : 0 ≤ farF l k ∧ farF l k < 32768 := by
    rcases Nat.eq_zero_or_pos k with e | e
    · subst e; unfold farF; omega
    · have := h1 k (by omega) e; omega
  refine ⟨?_, h3.2⟩
  have e1 : l.getD k 0 = l[k]'(by omega) := by rw [List.getD_eq_getElem?_getD, List.getElem?_eq_getElem (by omega)]; rfl
  have e2 : l.getD (k + 1) 0 = l[k + 1] := by rw [List.getD_eq_getElem?_getD, List.getElem?_eq_getElem hk]; rfl
  unfold farF at h3 h4 ⊢
  rw [e2] at h3 ⊢
  rw [e1] at h4 ⊢
  omega
theorem farF_lt {l : List Int} (h : Ord l) (i : Nat) : ∀ (d : Nat), i + d + 1 < l.length → farF l i < farF l (i + d + 1) ∧ farF l (i + d + 1) < 32768
  | 0, hk => farF_step h i hk
  | d + 1, hk => by
    have h1 := farF_lt h i d (by omega)
    have h2 := farF_step h (i + d + 1) (by omega)
    exact ⟨by have : i + (d + 1) + 1 = i + d + 1 + 1 := by omega
              rw [this]; omega, h2.2⟩
theorem near_far {l : List Int} (h : Ord l) {i k : Nat} (hik : i < k) (hk : k < l.length) : nearB (l[i]'(by omega)) l[k] = decide (farF l k - farF l i ≤ 16) := by
  obtain ⟨d, rfl⟩ : ∃ d, k = i + d + 1 := ⟨k - i - 1, by omega⟩
  have h1 := farF_lt h i d hk
  have h2 : 0 ≤ farF l i := by unfold farF; omega
  have e1 : l.getD i 0 = l[i]'(by omega) := by rw [List.getD_eq_getElem?_getD, List.getElem?_eq_getElem (by omega)]; rfl
  have e2 : l.getD (i + d + 1) 0 = l[i + d + 1] := by rw [List.getD_eq_getElem?_getD, List.getElem?_eq_getElem hk]; rfl
  unfold nearB dst
  unfold farF at h1 h2 ⊢
  rw [e2] at h1 ⊢
  rw [e1] at h1 h2 ⊢
  rw [Bool.eq_iff_iff]
  simp only [decide_eq_true_eq]
  omega
theorem far_cut {l : List Int} (h : Ord l) (c : Nat) (hc : c < l.length) :
    ∃ c', c < c' ∧ c' ≤ l.length ∧ farL l[c] (l.drop (c + 1)) = l.drop c' ∧ ∀ k (hk : k < l.length), c < k → nearB l[c] l[k] = decide (k < c') := by
  obtain ⟨m, hm, hf, hp⟩ := filter_drop (nearB l[c]) (l.drop (c + 1)) (fun a b hab hb hn => by
    rw [List.getElem_drop, near_far h (by omega) (by rw [List.length_drop] at hb; omega)] at hn ⊢
    simp only [decide_eq_true_eq] at hn ⊢
    rw [List.length_drop] at hb
    have := farF_lt h (c + 1 + a) (b - a - 1) (by omega)
    have e : c + 1 + a + (b - a - 1) + 1 = c + 1 + b := by omega
    rw [e] at this
    omega)
  rw [List.length_drop] at hm
  refine ⟨c + 1 + m, by omega, by omega, ?_, fun k hk hck => ?_⟩
  · unfold farL
    rw [hf, List.drop_drop]
  · have h2 := hp (k - (c + 1)) (by rw [List.length_drop]; omega)
    rw [List.getElem_drop] at h2
    have e : c + 1 + (k - (c + 1)) = k := by omega
    simp only [e] at h2
    rw [h2]
    congr 1
    exact propext ⟨fun _ => by omega, fun _ => by omega⟩
theorem pieces_drop {l : List Int} {c c' : Nat} (hc : c < l.length) (hf : farL l[c] (l.drop (c + 1)) = l.drop c') : piecesB (l.drop c) = pieceB (l[c], maskL l[c] (l.drop (c + 1))) ++ piecesB (l.drop c') := by
  rw [List.drop_eq_getElem_cons hc, piecesB_cons, hf]
theorem or_u16 (a b : Nat) (ha : a < 65536) (hb : b < 65536) : bits BinOp.or IntKind.u16 (a : Int) (b : Int) = ((a ||| b : Nat) : Int) := by
  have h := Nat.or_lt_two_pow (n := 16) (by simpa using ha) (by simpa using hb)
  have e2 : (BitVec.ofInt 16 (a : Int)).toNat = a := by rw [BitVec.ofInt_natCast, BitVec.toNat_ofNat]; exact Nat.mod_eq_of_lt (by omega)
  have e3 : (BitVec.ofInt 16 (b : Int)).toNat = b := by rw [BitVec.ofInt_natCast, BitVec.toNat_ofNat]; exact Nat.mod_eq_of_lt (by omega)
  show IntKind.u16.wrap ((BitVec.ofInt 16 (a : Int) ||| BitVec.ofInt 16 (b : Int)).toNat : Int) = _
  rw [BitVec.toNat_or, e2, e3]
  simp only [IntKind.wrap, IntKind.signed, IntKind.bits]
  show ((a ||| b : Nat) : Int) % 65536 = _
  omega
theorem or_i64 (a b : Nat) (ha : a < 65536) (hb : b < 65536) : bits BinOp.or IntKind.i64 (a : Int) (b : Int) = ((a ||| b : Nat) : Int) := by
  have h := Nat.or_lt_two_pow (n := 16) (by simpa using ha) (by simpa using hb)
  have e2 : (BitVec.ofInt 64 (a : Int)).toNat = a := by rw [BitVec.ofInt_natCast, BitVec.toNat_ofNat]; exact Nat.mod_eq_of_lt (by omega)
  have e3 : (BitVec.ofInt 64 (b : Int)).toNat = b := by rw [BitVec.ofInt_natCast, BitVec.toNat_ofNat]; exact Nat.mod_eq_of_lt (by omega)
  show IntKind.i64.wrap ((BitVec.ofInt 64 (a : Int) ||| BitVec.ofInt 64 (b : Int)).toNat : Int) = _
  rw [BitVec.toNat_or, e2, e3]
  exact wrap_i64 (by omega) (by omega)
theorem bit_same {s x m : Int} (hm : 0 ≤ m ∧ m ≤ 65535) (hn : nearB s x = true) : bits BinOp.or IntKind.i64 m (2 ^ (dst s x).toNat) = bitL s x m := by
  obtain ⟨a, rfl⟩ := Int.eq_ofNat_of_zero_le hm.1
  have h1 := dst_ok s x
  unfold nearB at hn
  simp only [decide_eq_true_eq] at hn
  obtain ⟨e, he⟩ : ∃ e : Nat, e = (dst s x).toNat := ⟨_, rfl⟩
  unfold bitL
  rw [← he]
  have h2 : 2 ^ e < 65536 := by
    have : 2 ^ e ≤ 2 ^ 15 := Nat.pow_le_pow_right (by decide) (by omega)
    omega
  have h3 : ((2 : Int) ^ e) = ((2 ^ e : Nat) : Int) := by simp
  rw [h3]
  generalize (2 ^ e : Nat) = p at h2 ⊢
  rw [u16_mod, or_i64 a _ (by omega) h2]
  have h4 : (p : Int) % 65536 = (p : Int) := by omega
  rw [h4, or_u16 a _ (by omega) h2]
end Go.Proofs.Ytddopbbmgpnjjaa
namespace Go.Proofs.Ytddopbbmgpnjjaa
open Go.RowKit
set_option linter.unusedSimpArgs false

def boC (tl : List Bool) : Array Value := (tl.map Value.bool).toArray
theorem boC_get (tl : List Bool) (k : Nat) (h : k < tl.length) : (boC tl)[k]? = some (.bool tl[k]) := by
  simp [boC, h]
theorem boC_set (tl : List Bool) (k : Nat) : (boC tl).setIfInBounds k (.bool true) = boC (tl.set k true) := by
  simp [boC, List.map_set]
theorem made_false (n : Nat) : madeCells (Value.bool false).cells n = boC (List.replicate n false) := by
  apply Array.ext
  · rw [size_madeCells]; simp [boC]
  · intro i h1 h2
    simp [madeCells, Value.cells, boC, Nat.mod_one]
theorem info4 : (Try.prog.info? 4).map (fun i => (i.zero, i.size, i.bytes)) = some (some (.bool false), 1, 1) := by kernel_rfl
theorem mkB (w : World) (n : Nat) (hn : n ≤ 255) : (Instr.makeSlice 117 (.int .i64 (n : Int)) (.int .i64 (n : Int))).run Try.prog w = .ok (.slice (some ⟨w.heap.size, 0, none⟩) n n) (w.alloc (.cells (boC (List.replicate n false)) 4)) := by
  obtain ⟨i0, hi, hz0, hz1, hz2⟩ := info_parts info4
  have h := run_makeSlice (P := Try.prog) w 117 4 i0 (.bool false) Try.underlying117 hi hz0 .i64 .i64 n n (by omega) (by omega) (by rw [hz1]; simp; omega) (by rw [hz2]; omega) (by omega)
  rw [h, hz1, Nat.mul_one, Int.toNat_natCast, made_false]
theorem wrap64_id {x : Int} (h0 : -9223372036854775808 ≤ x) (h1 : x ≤ 9223372036854775807) : wrap64 x = x := by
  unfold wrap64
  omega
theorem nothing_near {tl : List Bool} {ls : List Int} {i k : Nat} {s x m : Int} {hk : k < ls.length} (h : Hid ((∀ j (hj : j < tl.length) (hj2 : j < ls.length), i < j → tl[j] = (decide (j < k) && nearB s ls[j])) ∧ (maskL s ((ls.drop (i + 1)).take (k + 1 - (i + 1))) = if nearB s ls[k] = true then bitL s ls[k] m else m) ∧ x = ls[k] ∧ 0 ≤ m ∧ m ≤ 65535)) (hn : nearB s x = false) :
    m = maskL s ((ls.drop (i + 1)).take (k + 1 - (i + 1))) ∧ ∀ j (hj : j < tl.length) (hj2 : j < ls.length), i < j → tl[j] = (decide (j < k + 1) && nearB s ls[j]) := by
  obtain ⟨h1, h2, rfl, _⟩ := h.out
  refine ⟨by rw [h2, hn]; rfl, fun j hj hj2 hij => ?_⟩
  rw [h1 j hj hj2 hij]
  by_cases e : j = k
  · subst e; rw [hn]; simp
  · congr 1; exact decide_eq_decide.2 ⟨fun _ => by omega, fun _ => by omega⟩
theorem some_near {tl : List Bool} {ls : List Int} {i k : Nat} {s x m : Int} {hk : k < ls.length} (h : Hid ((∀ j (hj : j < tl.length) (hj2 : j < ls.length), i < j → tl[j] = (decide (j < k) && nearB s ls[j])) ∧ (maskL s ((ls.drop (i + 1)).take (k + 1 - (i + 1))) = if nearB s ls[k] = true then bitL s ls[k] m else m) ∧ x = ls[k] ∧ 0 ≤ m ∧ m ≤ 65535)) (hn : nearB s x = true) :
    bitL s x m = maskL s ((ls.drop (i + 1)).take (k + 1 - (i + 1))) ∧ ∀ j (hj : j < (tl.set k true).length) (hj2 : j < ls.length), i < j → (tl.set k true)[j] = (decide (j < k + 1) && nearB s ls[j]) := by
  obtain ⟨h1, h2, rfl, _⟩ := h.out
  refine ⟨by rw [h2, hn]; rfl, fun j hj hj2 hij => ?_⟩
  rw [List.getElem_set]
  by_cases e : k = j
  · subst e; rw [hn]; simp
  · rw [if_neg e, h1 j (by rw [List.length_set] at hj; exact hj) hj2 hij]
    congr 1; exact decide_eq_decide.2 ⟨fun _ => by omega, fun _ => by omega⟩
set_option maxRecDepth 8000 in
set_option maxHeartbeats 8000000 in
theorem piecesR (I : Img) (M : List Res) (w : World) (A : Option Addr) (z : Nat) (l : List Int) (hc : Cells I A (flat u16C l)) (hrng : ∀ x ∈ l, 0 ≤ x ∧ x ≤ 65535) (hl : l.length ≤ 32) (hord : Ord l) (hst : St I M w) :
    Calls Try.prog 38 #[.slice A l.length z] w (Frz I M (piecesB l)) := by
  have HC := Lib.hid hc
  have HRN := Lib.hid hrng
  have HO := Lib.hid hord
  have hs1 := hst.alloc 4 (boC (List.replicate l.length false))
  obtain ⟨q, hq⟩ : ∃ q, q = w.heap.size := ⟨_, rfl⟩
  rw [← hq] at hs1
  have HS := Lib.hid hs1
  have hmk := mkB w l.length (by omega)
  clear hc hrng hord hst hs1
  go_enter Try.func38, Try.ntmps38
  go_upto_region 4 with fail
  rw [← hq]
  generalize World.alloc w _ = W at HS ⊢
  clear hmk hq
  go_loopw [3, 14] (fun ov iv wr => ∃ (i : Nat) (A0 : Option Addr) (c0 : Nat) (acc : List UInt8), ov = .slice A0 acc.length c0 ∧ i ≤ l.length ∧ iv = .int .i64 i ∧ Hid (∃ (J : Img) (c : Nat) (tl : List Bool), I.le J ∧ St J (bk q 4 (boC tl) :: M) wr ∧ Byts J A0 acc ∧ acc ++ piecesB (l.drop c) = piecesB l ∧ (i ≤ c ∧ c ≤ l.length) ∧ tl.length = l.length ∧ ∀ k (hk : k < tl.length), i ≤ k → tl[k] = decide (k < c))) (fun _ iv _ => l.length - (intOf iv).toNat)
  case atStart => exact ⟨0, none, 0, [], rfl, by omega, rfl, Lib.hid ⟨I, 0, List.replicate l.length false, .refl I, HS.out, Byts.nil _ _, by simp, ⟨Nat.le_refl _, Nat.zero_le _⟩, by simp, fun k hk _ => by simp⟩⟩
  case round =>
    obtain ⟨i, A0, c0, acc, rfl, hi, rfl, hh⟩ := hrel
    clear HS
    obtain ⟨J0, c, tl, hle0, hs0, hb0, hpc, ⟨hic, hcn⟩, htl, htd⟩ := hh.out
    clear hh
    by_cases hlt : i < l.length
    · skip
      obtain ⟨hcq, hfq, hlq⟩ := Blk.all (hs0.at 0 rfl)
      have hti := htd i (by omega) (Nat.le_refl _)
      have y0 : wr.cell? ⟨q, i, none⟩ = some (.bool tl[i]) := by rw [hcq, boC_get tl i (by omega)]
      by_cases hci : i < c
      · rw [hti, decide_eq_true hci] at y0
        have HF := Lib.hid (show ∃ (J : Img) (c : Nat) (tl : List Bool), I.le J ∧ St J (bk q 4 (boC tl) :: M) wr ∧ Byts J A0 acc ∧ acc ++ piecesB (l.drop c) = piecesB l ∧ (i + 1 ≤ c ∧ c ≤ l.length) ∧ tl.length = l.length ∧ ∀ k (hk : k < tl.length), i + 1 ≤ k → tl[k] = decide (k < c) from ⟨J0, c, tl, hle0, hs0, hb0, hpc, ⟨by omega, hcn⟩, htl, fun k hk h => htd k hk (by omega)⟩)
        clear hs0 hb0 hpc htd hcq hfq hti
        go_wp2
        go_roundw
        case rel => exact ⟨i + 1, A0, c0, acc, rfl, by omega, by go_num, HF⟩
        case measure => simp [intOf]; omega
      have hice : i = c := by omega
      subst hice
      rw [hti, decide_eq_false hci] at y0
      obtain ⟨c', hcc, hcn', hfar, hnear⟩ := far_cut HO.out i hlt
      have HPD := Lib.hid (pieces_drop hlt hfar)
      have HNR := Lib.hid hnear
      have HPC := Lib.hid hpc
      have HLE := Lib.hid hle0
      have HB0 := Lib.hid hb0
      have HT0 := Lib.hid htd
      have HS0 := Lib.hid hs0
      obtain ⟨g, o, rfl, hcell⟩ := flat_get (s := 1) (fun _ => rfl) (HC.out.mono hle0) (by omega) (by decide)
      have HCL := Lib.hid hcell
      obtain ⟨s, hse⟩ : ∃ s, s = l[i] := ⟨_, rfl⟩
      have hsr := HRN.out _ (List.getElem_mem hlt)
      rw [← hse] at HPD HNR hsr
      have ys : ∀ (M' : List Res) (w' : World), St J0 M' w' → w'.cell? ⟨g, o + i, none⟩ = some (.int .u16 s) := fun M' w' h => by
        have := hcell M' w' h i hlt 0 (by decide)
        rw [hse]
        simpa using this
      have HYS := Lib.hid ys
      obtain ⟨hs1, hs2⟩ := hsr
      clear hs0 hb0 hpc htd hcq hfq hti hfar hnear hle0 hcell hse ys
      go_upto_region 9 with fail
      clear y0 hlq
      go_loopw [6, 7] (fun mv kv wr' => ∃ (k : Nat) (m : Int), mv = .int .i64 m ∧ kv = .int .i64 k ∧ i + 1 ≤ k ∧ k ≤ l.length ∧ Hid (m = maskL s ((l.drop (i + 1)).take (k - (i + 1))) ∧ ∃ tl2 : List Bool, tl2.length = l.length ∧ St J0 (bk q 4 (boC tl2) :: M) wr' ∧ ∀ j (hj : j < tl2.length) (hj2 : j < l.length), i < j → tl2[j] = (decide (j < k) && nearB s l[j]))) (fun _ kv _ => l.length - (intOf kv).toNat)
      case atStart => exact ⟨i + 1, 0, rfl, by go_num, by omega, by omega, Lib.hid ⟨by simp [maskL], tl, htl, HS0.out, fun j hj hj2 hij => by rw [HT0.out j hj (by omega), decide_eq_false (by omega), decide_eq_false (by omega)]; rfl⟩⟩
      case round =>
        obtain ⟨k, m, rfl, rfl, hik, hkn, hh⟩ := hrel
        obtain ⟨hm, tl2, htl2, hsk, htk⟩ := hh.out
        clear hh
        by_cases hkl : k < l.length
        · skip
          have yk : wr.cell? ⟨g, o + k, none⟩ = some (.int .u16 l[k]) := by
            have := HCL.out _ _ hsk k hkl 0 (by decide)
            simpa using this
          have ys := HYS.out _ _ hsk
          have hxr := HRN.out _ (List.getElem_mem hkl)
          have htake : (l.drop (i + 1)).take (k + 1 - (i + 1)) = (l.drop (i + 1)).take (k - (i + 1)) ++ [l[k]] := by
            have e : k + 1 - (i + 1) = k - (i + 1) + 1 := by omega
            rw [e, List.take_succ_eq_append_getElem (by rw [List.length_drop]; omega), List.getElem_drop]
            congr 3
            omega
          have hms := maskL_snoc s ((l.drop (i + 1)).take (k - (i + 1))) l[k]
          rw [← htake, ← hm] at hms
          have hmr := maskL_ok s ((l.drop (i + 1)).take (k - (i + 1)))
          rw [← hm] at hmr
          obtain ⟨x, hxe⟩ : ∃ x, x = l[k] := ⟨_, rfl⟩
          have HTK := Lib.hid (And.intro htk (And.intro hms (And.intro hxe hmr)))
          rw [← hxe] at yk hxr hms
          obtain ⟨hx1, hx2⟩ := hxr
          obtain ⟨hm1, hm2⟩ := hmr
          have HSK := Lib.hid hsk
          clear hsk htk htake hxe hm hms
          obtain ⟨D, hD⟩ : ∃ D, D = IntKind.u16.wrap (x - s) := ⟨_, rfl⟩
          have hDm : D = (x - s) % 65536 := by rw [hD, u16_mod]
          have hD1 : 0 ≤ D := by omega
          have hD2 : D ≤ 65535 := by omega
          have hnb : nearB s x = (decide (1 ≤ D) && decide (D ≤ 16)) := by
            unfold nearB dst
            rw [Bool.eq_iff_iff]
            simp only [Bool.and_eq_true, decide_eq_true_eq]
            omega
          have hdd : 1 ≤ D → (dst s x).toNat = (D - 1).toNat := fun h => by unfold dst; congr 1; omega
          have HD := Lib.hid (And.intro hDm (And.intro hnb hdd))
          replace hD := hD.symm
          clear hDm hnb hdd
          go_upto_region 11 with fail
          go_quiet (fail)
          have HS1 := Lib.hid (HSK.out.drewN nq)
          generalize World.drewN wr nq = W2 at HS1 ⊢
          clear HSK yk ys hD
          by_cases hn0 : D < 1
          · skip
            have hnx : nearB s x = false := by rw [HD.out.2.1, decide_eq_false (by omega)]; rfl
            have HR := Lib.hid (nothing_near (tl := tl2) HTK hnx)
            go_wp2
            go_roundw
            case rel => exact ⟨k + 1, m, rfl, by go_num, by omega, by omega, Lib.hid ⟨HR.out.1, tl2, htl2, HS1.out, HR.out.2⟩⟩
            case measure => simp [intOf]; omega
          have hn1 : 1 ≤ D := by omega
          by_cases hn2 : D ≤ 16
          · skip
            have hnx : nearB s x = true := by rw [HD.out.2.1, decide_eq_true hn1, decide_eq_true hn2]; rfl
            have hbit : bits BinOp.or IntKind.i64 m (wrap64 (2 ^ (D.toNat - 1))) = bitL s x m := by
              rw [← bit_same ⟨hm1, hm2⟩ hnx, HD.out.2.2 hn1]
              have hsh : (2 : Int) ^ (D - 1).toNat ≤ 32768 ∧ 0 ≤ (2 : Int) ^ (D - 1).toNat := by
                have h : (2 : Nat) ^ (D - 1).toNat ≤ 2 ^ 15 := Nat.pow_le_pow_right (by decide) (by omega)
                have h2 : ((2 : Int) ^ (D - 1).toNat) = ((2 ^ (D - 1).toNat : Nat) : Int) := by simp
                rw [h2]
                generalize (2 : Nat) ^ (D - 1).toNat = p at h ⊢
                omega
              have e : D.toNat - 1 = (D - 1).toNat := by omega
              rw [e, wrap64_id (by omega) (by omega)]
            have hbr : 0 ≤ bitL s x m ∧ bitL s x m ≤ 65535 := bits_u16 _ _ _ rfl
            have HR := Lib.hid (some_near (tl := tl2) HTK hnx)
            obtain ⟨m2, hm2e⟩ : ∃ m2, m2 = bitL s x m := ⟨_, rfl⟩
            rw [← hm2e] at hbit hbr HR
            obtain ⟨hbr1, hbr2⟩ := hbr
            clear hm2e
            obtain ⟨hcq, hfq, hlq⟩ := Blk.all (HS1.out.at 0 rfl)
            have y0 : W2.cell? ⟨q, k, none⟩ = some (.bool tl2[k]) := by rw [hcq, boC_get tl2 k (by omega)]
            have hs3 := HS1.out.set k (.bool true)
            rw [boC_set] at hs3
            have HS3 := Lib.hid hs3
            clear hs3 HS1 hcq
            go_wp2
            go_roundw
            case rel => exact ⟨k + 1, m2, rfl, by go_num, by omega, by omega, Lib.hid ⟨HR.out.1, tl2.set k true, by rw [List.length_set]; exact htl2, HS3.out, HR.out.2⟩⟩
            case measure => simp [intOf]; omega
          have hnx : nearB s x = false := by rw [HD.out.2.1, decide_eq_false hn2, Bool.and_false]
          have HR := Lib.hid (nothing_near (tl := tl2) HTK hnx)
          go_wp2
          go_roundw
          case rel => exact ⟨k + 1, m, rfl, by go_num, by omega, by omega, Lib.hid ⟨HR.out.1, tl2, htl2, HS1.out, HR.out.2⟩⟩
          case measure => simp [intOf]; omega
        have hke : k = l.length := by omega
        subst hke
        have HX := Lib.hid (And.intro hm htk)
        have HS1 := Lib.hid hsk
        have ys := HYS.out _ _ hsk
        rw [List.take_of_length_le (by rw [List.length_drop]; omega)] at hm
        have hmr := maskL_ok s (l.drop (i + 1))
        rw [← hm] at hmr
        have HM := Lib.hid hm
        clear hm htk hsk
        go_upto_region 15 with fail
        go_wp2_with fail
        go_at_call 39
        refine (two_frz J0 (bk q 4 (boC tl2) :: M) _ s HS1.out).mono ?_
        clear ys HS1
        rintro e w2 ⟨_, J1, rfl, hle1, hsA, A1, c1, rfl, hb1⟩
        have HB1 := Lib.hid (And.intro hsA (And.intro hle1 hb1))
        clear hsA hle1 hb1
        go_wp2_with fail
        go_at_call 39
        refine (two_frz J1 (bk q 4 (boC tl2) :: M) _ m HB1.out.1).mono ?_
        rintro e w3 ⟨_, J2, rfl, hle2, hsB, A2, c2, rfl, hb2⟩
        obtain ⟨J3, hle3, hsC, hobj⟩ := (hsB.alloc 24 #[.slice A0 acc.length c0, .slice A1 (u16B (s % 65536)).length c1, .slice A2 (u16B (m % 65536)).length c2]).freezeBlk
        have hcs := Cells.ofBlk hobj
        have hbd : acc.length ≤ 128 := by
          have h1 := congrArg List.length HPC.out
          have h2 := piecesB_le _ l (Nat.le_refl _)
          rw [List.length_append] at h1
          omega
        have HJ := Lib.hid (joinR J3 (bk q 4 (boC tl2) :: M) _ (some ⟨w3.heap.size, 0, none⟩) 3 [acc, u16B (s % 65536), u16B (m % 65536)] [.slice A0 acc.length c0, .slice A1 (u16B (s % 65536)).length c1, .slice A2 (u16B (m % 65536)).length c2] hcs ⟨⟨A0, c0, rfl, ((HB0.out.mono HB1.out.2.1).mono hle2).mono hle3⟩, ⟨A1, c1, rfl, (HB1.out.2.2.mono hle2).mono hle3⟩, ⟨A2, c2, rfl, hb2.mono hle3⟩, trivial⟩ (by simp) (by simp only [List.flatten_cons, List.flatten_nil, List.length_append, List.length_nil, u16B_len]; omega) hsC)
        have HL := Lib.hid (((HLE.out.trans HB1.out.2.1).trans hle2).trans hle3)
        clear HB1 hle2 hle3 hsB hsC hobj hcs hb2 hbd
        go_wp2_with fail
        go_at_call 35
        refine HJ.out.mono ?_
        clear HJ
        rintro e w4 ⟨_, _, _, rfl, _, hs4, rfl, A3, c3, rfl, hc3, rfl⟩
        obtain ⟨fl, hfl⟩ : ∃ z : List UInt8, z = ([acc, u16B (s % 65536), u16B (m % 65536)] : List (List UInt8)).flatten := ⟨_, rfl⟩
        rw [← hfl] at hs4 hc3 ⊢
        obtain ⟨J4, hle4, hs5, hb5⟩ := hs4.freezeRow
        have HFL := Lib.hid (show fl ++ piecesB (l.drop c') = piecesB l by
          rw [← HPC.out, HPD.out, ← HM.out, hfl]
          have e1 : s % 65536 = s := by omega
          have e2 : m % 65536 = m := by omega
          rw [e1, e2]
          simp [pieceB])
        have HF := Lib.hid (And.intro (HL.out.trans hle4) (And.intro hs5 (show Byts J4 A3 fl from hb5)))
        clear hfl hs4 hle4 hs5 hb5 hc3
        go_wp2
        go_roundw
        case rel =>
          refine ⟨i + 1, A3, c3, fl, rfl, by omega, by go_num, Lib.hid ⟨J4, c', tl2, HF.out.1, HF.out.2.1, HF.out.2.2, HFL.out, ⟨by omega, hcn'⟩, htl2, fun k hk h => ?_⟩⟩
          rw [HX.out.2 k hk (by omega) (by omega), HNR.out k (by omega) (by omega), decide_eq_true (by omega)]
          rfl
        case measure => simp [intOf]; omega
    have hin : i = l.length := by omega
    have hcl : c = l.length := by omega
    subst hcl
    rw [List.drop_of_length_le (Nat.le_refl _), piecesB_nil, List.append_nil] at hpc
    subst hpc
    have HF := Lib.hid (show Frz I M (piecesB l) (.returned (.slice A0 (piecesB l).length c0)) wr from ⟨_, J0, rfl, hle0, hs0.drop, A0, c0, rfl, hb0⟩)
    clear hs0 hb0 htd
    go_wp2
    go_returns
    exact HF.out
end Go.Proofs.Ytddopbbmgpnjjaa
namespace Go.Proofs.Ytddopbbmgpnjjaa
open Go.RowKit
set_option linter.unusedSimpArgs false

def mkN (l : List Int) (j : Nat) : Nat := if h : j < l.length then (markOf l[j]).toNat else 0
theorem mkN_le (l : List Int) (j : Nat) : mkN l j ≤ 2 := by
  unfold mkN
  split
  · have := markOf_ok (l[j]); omega
  · omega
theorem mkN_in {l : List Int} {j : Nat} (h : j < l.length) : (mkN l j : Int) = markOf l[j] := by
  unfold mkN
  rw [dif_pos h]
  have := markOf_ok (l[j])
  omega
theorem mkN_out {l : List Int} {j : Nat} (h : l.length ≤ j) : mkN l j = 0 := by
  unfold mkN
  rw [dif_neg (by omega)]
/-- marks from number i on, of k arrivals, as a number -/
def cv (l : List Int) (i : Nat) : Nat → Nat
  | 0 => 0
  | k + 1 => 4 * cv l i k + mkN l (i + k)
theorem cv_lt (l : List Int) (i : Nat) : ∀ k, cv l i k < 4 ^ k
  | 0 => by simp [cv]
  | k + 1 => by
    have h1 := cv_lt l i k
    have h2 := mkN_le l (i + k)
    rw [Nat.pow_succ]
    unfold cv
    omega
theorem cv_out (l : List Int) (i k : Nat) (h : l.length ≤ i + k) : ∀ d, cv l i (k + d) = cv l i k * 4 ^ d
  | 0 => by simp
  | d + 1 => by
    show 4 * cv l i (k + d) + mkN l (i + (k + d)) = _
    rw [cv_out l i k h d, mkN_out (by omega), Nat.pow_succ]
    rw [Nat.add_zero, Nat.mul_comm 4, Nat.mul_assoc]
def wordR (l : List Int) (i : Nat) : Int := 49152 + (cv l i 7 : Nat)
def marksT (l : List Int) : Nat → List UInt8
  | 0 => []
  | t + 1 => marksT l t ++ u16B (wordR l (7 * t))
theorem marksT_len (l : List Int) : ∀ t, (marksT l t).length = 2 * t
  | 0 => rfl
  | t + 1 => by
    show (marksT l t ++ u16B _).length = _
    rw [List.length_append, marksT_len l t, u16B_len]; omega
def farO (a : Int) : List UInt8 := if markOf a = 1 then [byteOf (a % 256)] else if markOf a = 2 then u16B (a % 65536) else []
theorem farO_le (a : Int) : (farO a).length ≤ 2 := by
  unfold farO
  repeat' split
  · simp
  · rw [u16B_len]; omega
  · simp
theorem or_u16_low (a b s : Nat) (hb : b < 2 ^ s) (hl : a * 2 ^ s + b < 65536) : bits BinOp.or IntKind.u16 ((a * 2 ^ s : Nat) : Int) (b : Int) = ((a * 2 ^ s + b : Nat) : Int) := by
  have hor : a * 2 ^ s ||| b = a * 2 ^ s + b := by
    have := Nat.shiftLeft_add_eq_or_of_lt (b := b) (i := s) hb a
    rw [Nat.shiftLeft_eq] at this
    exact this.symm
  generalize a * 2 ^ s = p at hor hl ⊢
  rw [or_u16 p b (by omega) (by omega), hor]
/-- one more mark -/
theorem ch_next (A m k : Nat) (hk : k < 7) (hA : A < 4 ^ k) (hm : m ≤ 2) : bits BinOp.or IntKind.u16 ((A * 2 ^ (14 - 2 * k) : Nat) : Int) (IntKind.u16.wrap ((m : Int) * 2 ^ (12 - 2 * k))) = (((4 * A + m) * 2 ^ (12 - 2 * k) : Nat) : Int) := by
  have h7 : k = 0 ∨ k = 1 ∨ k = 2 ∨ k = 3 ∨ k = 4 ∨ k = 5 ∨ k = 6 := by omega
  have key : ∀ p q : Nat, 2 ^ (14 - 2 * k) = 2 ^ p → 2 ^ (12 - 2 * k) = 2 ^ q → p = q + 2 → (A + 1) * 2 ^ p ≤ 16384 → bits BinOp.or IntKind.u16 ((A * 2 ^ (14 - 2 * k) : Nat) : Int) (IntKind.u16.wrap ((m : Int) * 2 ^ (12 - 2 * k))) = (((4 * A + m) * 2 ^ (12 - 2 * k) : Nat) : Int) := by
    intro p q h1 h2 hp hle
    have h2' : ((2 : Int) ^ (12 - 2 * k)) = ((2 ^ q : Nat) : Int) := by rw [← h2]; simp
    rw [h1, h2, h2', hp]
    have e4 : 2 ^ (q + 2) = 4 * 2 ^ q := by rw [Nat.pow_add]; omega
    rw [hp, e4] at hle
    have hmq : m * 2 ^ q < 2 ^ (q + 2) := by
      rw [e4]
      have : 0 < 2 ^ q := Nat.two_pow_pos q
      calc m * 2 ^ q ≤ 2 * 2 ^ q := Nat.mul_le_mul_right _ hm
        _ < 4 * 2 ^ q := by omega
    have hsum : A * 2 ^ (q + 2) + m * 2 ^ q < 65536 := by
      rw [e4] at hmq ⊢
      rw [Nat.add_mul] at hle
      omega
    have h3 : IntKind.u16.wrap ((m : Int) * ((2 ^ q : Nat) : Int)) = ((m * 2 ^ q : Nat) : Int) := by
      rw [u16_mod, ← Int.natCast_mul]
      generalize m * 2 ^ q = z at hmq hsum ⊢
      omega
    rw [h3, or_u16_low A (m * 2 ^ q) (q + 2) hmq hsum, e4]
    congr 1
    rw [Nat.add_mul, Nat.mul_left_comm, Nat.mul_assoc]
  rcases h7 with rfl | rfl | rfl | rfl | rfl | rfl | rfl
  · exact key 14 12 rfl rfl rfl (by simp at hA ⊢; omega)
  · exact key 12 10 rfl rfl rfl (by simp at hA ⊢; omega)
  · exact key 10 8 rfl rfl rfl (by simp at hA ⊢; omega)
  · exact key 8 6 rfl rfl rfl (by simp at hA ⊢; omega)
  · exact key 6 4 rfl rfl rfl (by simp at hA ⊢; omega)
  · exact key 4 2 rfl rfl rfl (by simp at hA ⊢; omega)
  · exact key 2 0 rfl rfl rfl (by simp at hA ⊢; omega)
theorem top_or (x : Nat) (h : x < 16384) : bits BinOp.or IntKind.u16 49152 (x : Int) = 49152 + (x : Int) := by
  have := or_u16_low 3 x 14 (by simpa using h) (by simp; omega)
  have e : ((3 * 2 ^ 14 : Nat) : Int) = 49152 := by decide
  have e2 : ((3 * 2 ^ 14 + x : Nat) : Int) = 49152 + (x : Int) := by simp
  rw [e, e2] at this
  exact this
theorem fold_state (l : List Int) : ∀ j, j ≤ l.length → (((l.take j).map markP).foldl (stepM l.length) ms0).n = j ∧ (((l.take j).map markP).foldl (stepM l.length) ms0).far = (l.take j).flatMap farO ∧
    (j < l.length → (((l.take j).map markP).foldl (stepM l.length) ms0).mks = marksT l (j / 7) ∧ (((l.take j).map markP).foldl (stepM l.length) ms0).ch = ((cv l (7 * (j / 7)) (j % 7) * 2 ^ (14 - 2 * (j % 7)) : Nat) : Int)) ∧
    (j = l.length → 0 < j → (((l.take j).map markP).foldl (stepM l.length) ms0).mks = marksT l ((l.length + 6) / 7)) := by
  intro j
  induction j with
  | zero => intro _; exact ⟨rfl, rfl, fun _ => ⟨rfl, by simp [cv, ms0]⟩, fun _ h => absurd h (Nat.lt_irrefl _)⟩
  | succ j ih =>
    intro hj
    obtain ⟨h1, h2, h3, -⟩ := ih (by omega)
    obtain ⟨h4, h5⟩ := h3 (by omega)
    have htk : (l.take (j + 1)).map markP = (l.take j).map markP ++ [markP l[j]] := by
      rw [List.take_succ_eq_append_getElem (by omega), List.map_append]; rfl
    have htk2 : (l.take (j + 1)).flatMap farO = (l.take j).flatMap farO ++ farO l[j] := by
      rw [List.take_succ_eq_append_getElem (by omega), List.flatMap_append, List.flatMap_singleton]
    rw [htk, htk2, List.foldl_append]
    simp only [List.foldl_cons, List.foldl_nil]
    generalize ((l.take j).map markP).foldl (stepM l.length) ms0 = s at h1 h2 h4 h5
    have hk : j % 7 < 7 := Nat.mod_lt _ (by decide)
    have hA := cv_lt l (7 * (j / 7)) (j % 7)
    have hje : 7 * (j / 7) + j % 7 = j := Nat.div_add_mod j 7
    have hmi := mkN_in (l := l) (j := j) (by omega)
    have hch : chM s (markOf l[j]) = ((cv l (7 * (j / 7)) (j % 7 + 1) * 2 ^ (12 - 2 * (j % 7)) : Nat) : Int) := by
      unfold chM
      rw [h5, h1, ← hmi, ch_next _ _ _ hk hA (mkN_le l j)]
      show _ = (((4 * cv l (7 * (j / 7)) (j % 7) + mkN l (7 * (j / 7) + j % 7)) * 2 ^ (12 - 2 * (j % 7)) : Nat) : Int)
      rw [hje]
    have hfar : (stepM l.length s (markP l[j])).far = s.far ++ farO l[j] := by
      show (if markOf l[j] = 1 then s.far ++ [byteOf (l[j] % 256)] else if markOf l[j] = 2 then s.far ++ u16B (l[j] % 65536) else s.far) = _
      unfold farO
      split
      · rfl
      · split
        · rfl
        · simp
    have hn : (stepM l.length s (markP l[j])).n = j + 1 := by show s.n + 1 = _; rw [h1]
    refine ⟨hn, by rw [hfar, h2], fun hlt => ?_, fun he _ => ?_⟩
    · by_cases hf : (j + 1) % 7 = 0
      · have hfull : fullM l.length s = true := by unfold fullM; rw [h1, decide_eq_true hf]; rfl
        have hk6 : j % 7 = 6 := by omega
        have hd : (j + 1) / 7 = j / 7 + 1 := by omega
        constructor
        · show (if fullM l.length s then s.mks ++ u16B (bits BinOp.or IntKind.u16 49152 (chM s (markOf l[j]))) else s.mks) = _
          rw [hfull, if_pos rfl, hch, hk6, hd, h4]
          have h7 := cv_lt l (7 * (j / 7)) 7
          have e : cv l (7 * (j / 7)) (6 + 1) * 2 ^ (12 - 2 * 6) = cv l (7 * (j / 7)) 7 := by simp
          rw [e, top_or _ (by simpa using h7)]
          rfl
        · show (if fullM l.length s then (0 : Int) else chM s (markOf l[j])) = _
          rw [hfull, if_pos rfl, hf]
          simp [cv]
      · have hfull : fullM l.length s = false := by unfold fullM; rw [h1, decide_eq_false hf, decide_eq_false (by omega)]; rfl
        have hd : (j + 1) / 7 = j / 7 := by omega
        have hm : (j + 1) % 7 = j % 7 + 1 := by omega
        constructor
        · show (if fullM l.length s then s.mks ++ u16B (bits BinOp.or IntKind.u16 49152 (chM s (markOf l[j]))) else s.mks) = _
          rw [hfull, hd, h4]; rfl
        · show (if fullM l.length s then (0 : Int) else chM s (markOf l[j])) = _
          rw [hfull, hd, hm, hch]
          have e : 14 - 2 * (j % 7 + 1) = 12 - 2 * (j % 7) := by omega
          rw [e]; rfl
    · have hfull : fullM l.length s = true := by unfold fullM; rw [h1, decide_eq_true he, Bool.or_true]
      show (if fullM l.length s then s.mks ++ u16B (bits BinOp.or IntKind.u16 49152 (chM s (markOf l[j]))) else s.mks) = _
      have hd : (l.length + 6) / 7 = j / 7 + 1 := by omega
      have h7 := cv_lt l (7 * (j / 7)) 7
      have ho := cv_out l (7 * (j / 7)) (j % 7 + 1) (by omega) (6 - j % 7)
      have e7 : j % 7 + 1 + (6 - j % 7) = 7 := by omega
      have e4 : (4 : Nat) ^ (6 - j % 7) = 2 ^ (12 - 2 * (j % 7)) := by
        have : 12 - 2 * (j % 7) = 2 * (6 - j % 7) := by omega
        rw [this, Nat.pow_mul]
      rw [e7, e4] at ho
      rw [hfull, if_pos rfl, hch, hd, h4, ← ho, top_or _ (by simpa using h7)]
      rfl
/-- marks and distances, as the document has them -/
theorem arrsL_eq (l : List Int) (h : 0 < l.length) : arrsL l = marksT l ((l.length + 6) / 7) ++ l.flatMap farO := by
  obtain ⟨_, h2, _, h4⟩ := fold_state l l.length (Nat.le_refl _)
  rw [List.take_length] at h2 h4
  unfold arrsL arrsM
  rw [h2, h4 rfl h]
end Go.Proofs.Ytddopbbmgpnjjaa
