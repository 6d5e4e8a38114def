/- slices.SortStableFunc at uint16: it returns; what is in order stays as it is. -/
import Derived.Test.YtddopbbmgpnjjaaRcP
import Derived.Test.YtddopbbmgpnjjaaSl
namespace Go.Proofs.Ytddopbbmgpnjjaa
open Go.RowKit
set_option linter.unusedSimpArgs false

def keyS (base x : Int) : Int := (x - base) % 65536
/-- in the order of their distance from base -/
def SortK (base : Int) (l : List Int) : Prop := ∀ i j (hij : i < j) (hj : j < l.length), keyS base (l[i]'(by omega)) ≤ keyS base l[j]
def Rng (l : List Int) : Prop := ∀ x ∈ l, 0 ≤ x ∧ x ≤ 65535
/-- what a sort makes of a list: as many numbers; the list itself, if it is in order -/
structure Kept (base : Int) (l l' : List Int) : Prop where
  len : l'.length = l.length
  rng : Rng l'
  same : SortK base l → l' = l
theorem Kept.refl {base : Int} {l : List Int} (h : Rng l) : Kept base l l := ⟨rfl, h, fun _ => rfl⟩
theorem Kept.trans {base : Int} {l l' l'' : List Int} (h : Kept base l l') (k : Kept base l' l'') : Kept base l l'' :=
  ⟨k.len.trans h.len, k.rng, fun hs => by have e := h.same hs; subst e; exact k.same hs⟩
theorem Kept.un {base : Int} {l l' : List Int} (hl : l'.length = l.length) (hr : Rng l') (hn : ¬ SortK base l) : Kept base l l' := ⟨hl, hr, fun h => absurd h hn⟩
theorem Rng.set {l : List Int} (h : Rng l) {i : Nat} {x : Int} (hx : 0 ≤ x ∧ x ≤ 65535) : Rng (l.set i x) := fun y hy => by
  rcases List.mem_or_eq_of_mem_set hy with h1 | h1
  · exact h y h1
  · rw [h1]; exact hx
def swapL (l : List Int) (i j : Nat) (hi : i < l.length) (hj : j < l.length) : List Int := (l.set i l[j]).set j l[i]
theorem swapL_len {l : List Int} {i j : Nat} {hi : i < l.length} {hj : j < l.length} : (swapL l i j hi hj).length = l.length := by unfold swapL; rw [List.length_set, List.length_set]
theorem swapL_rng {l : List Int} (h : Rng l) {i j : Nat} {hi : i < l.length} {hj : j < l.length} : Rng (swapL l i j hi hj) := (h.set (h _ (List.getElem_mem hj))).set (h _ (List.getElem_mem hi))
/-- the numbers, and what they are compared by -/
def Srt (I : Img) (M : List Res) (g c B : Nat) (base : Int) (l : List Int) (w : World) : Prop := St I (row 42 1 (.slice (some ⟨g, 0, none⟩) l.length c) l.length (flat u16C l) :: bk B 42 #[.int .u16 base] :: M) w
theorem St.rowCellSet16 {I : Img} {M : List Res} {w : World} {e s n c g : Nat} {xs : List Value} (h : St I (row e s (.slice (some ⟨g, 0, none⟩) n c) n xs :: M) w) (k : Nat) (v : Value) (h0 : 0 < xs.length) :
    St I (row e s (.slice (some ⟨g, 0, none⟩) n c) n (xs.set k v) :: M) (w.setCell ⟨g, k, none⟩ v) := by
  obtain ⟨g', cur, e1, _, hlc, hcm, hcs, hct, hs⟩ := h.rowBk h0
  injection e1 with e1
  injection e1 with e1
  subst e1
  exact (hs.set k v).bkRow hlc hcm (by rw [Array.size_setIfInBounds]; exact hcs) (by rw [Array.toList_setIfInBounds, List.take_set, hct])
theorem flat16_set (l : List Int) (k : Nat) (x : Int) (_hk : k < l.length) : (flat u16C l).set k (.int .u16 x) = flat u16C (l.set k x) := by
  have h : flat u16C l = l.map (fun x => Value.int .u16 x) := by
    clear _hk
    induction l with
    | nil => rfl
    | cons a r ih => show _ :: flat u16C r = _; rw [ih]; rfl
  have h2 : flat u16C (l.set k x) = (l.set k x).map (fun x => Value.int .u16 x) := by
    generalize l.set k x = m
    clear _hk h
    induction m with
    | nil => rfl
    | cons a r ih => show _ :: flat u16C r = _; rw [ih]; rfl
  rw [h, h2, List.map_set]
theorem Srt.set {I : Img} {M : List Res} {g c B : Nat} {base : Int} {l : List Int} {w : World} (h : Srt I M g c B base l w) (k : Nat) (hk : k < l.length) (x : Int) : Srt I M g c B base (l.set k x) (w.setCell ⟨g, k, none⟩ (.int .u16 x)) := by
  have hs := St.rowCellSet16 h k (.int .u16 x) (by rw [flat_len (s := 1) (fun _ => rfl)]; omega)
  rw [flat16_set l k x hk] at hs
  unfold Srt
  rw [List.length_set]
  exact hs
theorem Srt.cell {I : Img} {M : List Res} {g c B : Nat} {base : Int} {l : List Int} {w : World} (h : Srt I M g c B base l w) (k : Nat) (hk : k < l.length) : w.cell? ⟨g, k, none⟩ = some (.int .u16 l[k]) ∧ w.frozen? ⟨g, k, none⟩ = false ∧ g < w.heap.size := by
  obtain ⟨g', cur, e1, hg, hlc, hcm, hcs, hct, hs⟩ := St.rowBk h (by rw [flat_len (s := 1) (fun _ => rfl)]; omega)
  injection e1 with e1
  injection e1 with e1
  subst e1
  have hb : Blk w g 42 cur := hs.head
  refine ⟨?_, hb.frozen k, hb.lt⟩
  rw [hb.cell k]
  have h2 := flat_at (s := 1) (f := u16C) (fun _ => rfl) l k 0 hk (by decide)
  rw [← hct] at h2
  have h3 : cur[k]? = cur.toList[k]? := by simp
  rw [h3]
  simp only [Nat.mul_one, Nat.add_zero] at h2
  rw [List.getElem?_take, if_pos hk] at h2
  rw [h2]
  rfl
theorem Srt.base {I : Img} {M : List Res} {g c B : Nat} {base : Int} {l : List Int} {w : World} (h : Srt I M g c B base l w) : w.cell? ⟨B, 0, none⟩ = some (.int .u16 base) := ((Blk.all (h.at 1 rfl)).1 0)
theorem Srt.cap {I : Img} {M : List Res} {g c B : Nat} {base : Int} {l : List Int} {w : World} (h : Srt I M g c B base l w) : l.length ≤ c := (own_cap (show World.ownsRow _ 0 42 1 (.slice (some ⟨g, 0, none⟩) l.length c) l.length _ from h.head)).2
set_option maxHeartbeats 1000000 in
theorem cmp65 (w : World) (B : Nat) (base a b : Int) (hB : w.cell? ⟨B, 0, none⟩ = some (.int .u16 base)) : Calls Try.prog 65 #[.int .u16 a, .int .u16 b, .pointer (some ⟨B, 0, none⟩)] w fun e w' => e = .returned (.int .i64 (keyS base a - keyS base b)) ∧ w = w' := by
  have h1 : IntKind.u16.wrap (a - base) = keyS base a := u16_mod _
  have h2 : IntKind.u16.wrap (b - base) = keyS base b := u16_mod _
  have k1 : 0 ≤ keyS base a ∧ keyS base a ≤ 65535 := by unfold keyS; omega
  have k2 : 0 ≤ keyS base b ∧ keyS base b ≤ 65535 := by unfold keyS; omega
  obtain ⟨ka, hka⟩ : ∃ k, k = keyS base a := ⟨_, rfl⟩
  obtain ⟨kb, hkb⟩ : ∃ k, k = keyS base b := ⟨_, rfl⟩
  rw [← hka] at h1 k1
  rw [← hkb] at h2 k2
  have HK := Lib.hid (And.intro hka hkb)
  obtain ⟨k1, k3⟩ := k1
  obtain ⟨k2, k4⟩ := k2
  clear hka hkb
  go_enter Try.func65, Try.ntmps65
  go_wp2
  go_returns
  rw [← HK.out.1, ← HK.out.2]
  exact ⟨rfl, rfl⟩
end Go.Proofs.Ytddopbbmgpnjjaa
namespace Go.Proofs.Ytddopbbmgpnjjaa
open Go.RowKit
set_option linter.unusedSimpArgs false

theorem Srt.drew {I : Img} {M : List Res} {g c B : Nat} {base : Int} {l : List Int} {w : World} (h : Srt I M g c B base l w) : Srt I M g c B base l w.drew := St.drew h
/-- what a function of the sort does -/
def Does (I : Img) (M : List Res) (g c B : Nat) (base : Int) (l : List Int) : Ending → World → Prop := fun e w' => e = .returned (.tuple #[]) ∧ ∃ l', Kept base l l' ∧ Srt I M g c B base l' w'
theorem cmpD (w : World) (B : Nat) (base a b d : Int) (hd : d = keyS base a - keyS base b) (hB : w.cell? ⟨B, 0, none⟩ = some (.int .u16 base)) : Calls Try.prog 65 #[.int .u16 a, .int .u16 b, .pointer (some ⟨B, 0, none⟩)] w fun e w' => e = .returned (.int .i64 d) ∧ w = w' := by
  rw [hd]
  exact cmp65 w B base a b hB
set_option maxRecDepth 8000 in
set_option maxHeartbeats 8000000 in
theorem insertC (I : Img) (M : List Res) (w : World) (g c B n : Nat) (base : Int) (l : List Int) (a b : Nat) (hn : n = l.length) (hab0 : a ≤ b) (hb : b ≤ n) (hn1 : n ≤ 1000000) (hr : Rng l) (hst : Srt I M g c B base l w) :
    Calls Try.prog 73 #[.slice (some ⟨g, 0, none⟩) n c, .int .i64 a, .int .i64 b, .func (.func 65) #[] #[.pointer (some ⟨B, 0, none⟩)]] w (Does I M g c B base l) := by
  have HS := Lib.hid hst
  have HR := Lib.hid hr
  have HN := Lib.hid hn
  have hcap := hst.cap
  rw [← hn] at hcap
  clear hst hr hn
  have hab := hab0
  go_enter Try.func73, Try.ntmps73
  go_upto_region 1 with fail
  go_loopw [8] (fun iv wr => ∃ i : Nat, iv = .int .i64 i ∧ a + 1 ≤ i ∧ i ≤ b + 1 ∧ Hid (∃ l1, Kept base l l1 ∧ Srt I M g c B base l1 wr)) (fun iv _ => b + 1 - (intOf iv).toNat)
  case atStart => exact ⟨a + 1, by go_num, by omega, by omega, Lib.hid ⟨l, .refl HR.out, HS.out⟩⟩
  case round =>
    obtain ⟨i, rfl, hi1, hi2, hh⟩ := hrel
    clear HS
    by_cases hib : i < b
    · skip
      go_upto_region 4 with fail
      go_loopw [9] (fun jv wr => ∃ j : Nat, jv = .int .i64 j ∧ a ≤ j ∧ j ≤ i ∧ Hid (∃ l1, Kept base l l1 ∧ Srt I M g c B base l1 wr)) (fun jv _ => (intOf jv).toNat)
      case atStart => exact ⟨i, rfl, by omega, by omega, hh⟩
      case round =>
        obtain ⟨j, rfl, hj1, hj2, hk⟩ := hrel
        clear hh
        obtain ⟨l1, hkp, hs⟩ := hk.out
        have hl1 : l1.length = n := by rw [hkp.len, HN.out]
        have HLN := Lib.hid hl1
        have HK := Lib.hid hkp
        have HS := Lib.hid hs
        clear hkp hs hk
        by_cases hja : j = a
        · subst hja
          go_upto_region 4 with fail
          refine wp_region_held_drew (S := (fun _ => True)) (by kernel_rfl) (by (try dsimp only); all_goals trivial) (fun hHeld => ?_)
          refine wpAnyH_take (i := 0) (oi := _) (v := ?_) rfl (by kernel_rfl) (by kernel_rfl) (by kernel_rfl) (fun _ _ _ h => h) (Or.inl ⟨by rfl, ?_⟩) (by assumption) ?_
          rotate_left
          · (intro w hSw; (try dsimp only at hSw); go_simp; try with_reducible rfl)
          try simp only [Act.put, List.getElem_toArray, List.getElem_cons_zero, List.getElem_cons_succ, List.setIfInBounds_toArray, List.set_cons_zero, List.set_cons_succ]
          refine wpAnyH_take (i := 1) (oi := _) (v := ?_) rfl (by kernel_rfl) (by kernel_rfl) (by kernel_rfl) (fun _ _ _ h => h) (Or.inl ⟨by rfl, ?_⟩) (by assumption) ?_
          rotate_left
          · (intro w hSw; (try dsimp only at hSw); go_simp; try with_reducible rfl)
          try simp only [Act.put, List.getElem_toArray, List.getElem_cons_zero, List.getElem_cons_succ, List.setIfInBounds_toArray, List.set_cons_zero, List.set_cons_succ]
          refine wpAnyH_take (i := 2) (oi := _) (v := ?_) rfl (by kernel_rfl) (by kernel_rfl) (by kernel_rfl) (fun _ _ _ h => h) (Or.inl ⟨by rfl, ?_⟩) (by assumption) ?_
          rotate_left
          · (intro w hSw; (try dsimp only at hSw); go_simp; try with_reducible rfl)
          try simp only [Act.put, List.getElem_toArray, List.getElem_cons_zero, List.getElem_cons_succ, List.setIfInBounds_toArray, List.set_cons_zero, List.set_cons_succ]
          refine wpAnyH_take (i := 3) (oi := _) (v := ?_) rfl (by kernel_rfl) (by kernel_rfl) (by kernel_rfl) (fun _ _ _ h => h) (Or.inl ⟨by rfl, ?_⟩) (by assumption) ?_
          rotate_left
          · (intro w hSw; (try dsimp only at hSw); go_simp; try with_reducible rfl)
          try simp only [Act.put, List.getElem_toArray, List.getElem_cons_zero, List.getElem_cons_succ, List.setIfInBounds_toArray, List.set_cons_zero, List.set_cons_succ]
          refine wpAnyH_take (i := 4) (oi := _) (v := undef) rfl (by kernel_rfl) (by kernel_rfl) (by kernel_rfl) (fun _ _ _ h => h) (Or.inr ⟨by rfl, rfl⟩) (by assumption) ?_
          try simp only [Act.put, List.getElem_toArray, List.getElem_cons_zero, List.getElem_cons_succ, List.setIfInBounds_toArray, List.set_cons_zero, List.set_cons_succ]
          refine wpAnyH_take (i := 5) (oi := _) (v := undef) rfl (by kernel_rfl) (by kernel_rfl) (by kernel_rfl) (fun _ _ _ h => h) (Or.inr ⟨by rfl, rfl⟩) (by assumption) ?_
          try simp only [Act.put, List.getElem_toArray, List.getElem_cons_zero, List.getElem_cons_succ, List.setIfInBounds_toArray, List.set_cons_zero, List.set_cons_succ]
          refine wpAnyH_take (i := 6) (oi := _) (v := undef) rfl (by kernel_rfl) (by kernel_rfl) (by kernel_rfl) (fun _ _ _ h => h) (Or.inr ⟨by rfl, rfl⟩) (by assumption) ?_
          try simp only [Act.put, List.getElem_toArray, List.getElem_cons_zero, List.getElem_cons_succ, List.setIfInBounds_toArray, List.set_cons_zero, List.set_cons_succ]
          refine wpAnyH_take (i := 7) (oi := _) (v := undef) rfl (by kernel_rfl) (by kernel_rfl) (by kernel_rfl) (fun _ _ _ h => h) (Or.inr ⟨by rfl, rfl⟩) (by assumption) ?_
          try simp only [Act.put, List.getElem_toArray, List.getElem_cons_zero, List.getElem_cons_succ, List.setIfInBounds_toArray, List.set_cons_zero, List.set_cons_succ]
          refine wpAnyH_take (i := 8) (oi := _) (v := undef) rfl (by kernel_rfl) (by kernel_rfl) (by kernel_rfl) (fun _ _ _ h => h) (Or.inr ⟨by rfl, rfl⟩) (by assumption) ?_
          try simp only [Act.put, List.getElem_toArray, List.getElem_cons_zero, List.getElem_cons_succ, List.setIfInBounds_toArray, List.set_cons_zero, List.set_cons_succ]
          refine wpAnyH_take (i := 9) (oi := _) (v := undef) rfl (by kernel_rfl) (by kernel_rfl) (by kernel_rfl) (fun _ _ _ h => h) (Or.inr ⟨by rfl, rfl⟩) (by assumption) ?_
          try simp only [Act.put, List.getElem_toArray, List.getElem_cons_zero, List.getElem_cons_succ, List.setIfInBounds_toArray, List.set_cons_zero, List.set_cons_succ]
          refine wpAnyH_take (i := 10) (oi := _) (v := undef) rfl (by kernel_rfl) (by kernel_rfl) (by kernel_rfl) (fun _ _ _ h => h) (Or.inr ⟨by rfl, rfl⟩) (by assumption) ?_
          try simp only [Act.put, List.getElem_toArray, List.getElem_cons_zero, List.getElem_cons_succ, List.setIfInBounds_toArray, List.set_cons_zero, List.set_cons_succ]
          refine wpAnyH_take (i := 11) (oi := _) (v := undef) rfl (by kernel_rfl) (by kernel_rfl) (by kernel_rfl) (fun _ _ _ h => h) (Or.inr ⟨by rfl, rfl⟩) (by assumption) ?_
          try simp only [Act.put, List.getElem_toArray, List.getElem_cons_zero, List.getElem_cons_succ, List.setIfInBounds_toArray, List.set_cons_zero, List.set_cons_succ]
          refine wpAnyH_take (i := 12) (oi := _) (v := undef) rfl (by kernel_rfl) (by kernel_rfl) (by kernel_rfl) (fun _ _ _ h => h) (Or.inr ⟨by rfl, rfl⟩) (by assumption) ?_
          try simp only [Act.put, List.getElem_toArray, List.getElem_cons_zero, List.getElem_cons_succ, List.setIfInBounds_toArray, List.set_cons_zero, List.set_cons_succ]
          refine wpAnyH_take (i := 13) (oi := _) (v := undef) rfl (by kernel_rfl) (by kernel_rfl) (by kernel_rfl) (fun _ _ _ h => h) (Or.inr ⟨by rfl, rfl⟩) (by assumption) ?_
          try simp only [Act.put, List.getElem_toArray, List.getElem_cons_zero, List.getElem_cons_succ, List.setIfInBounds_toArray, List.set_cons_zero, List.set_cons_succ]
          refine wpAnyH_take (i := 14) (oi := _) (v := undef) rfl (by kernel_rfl) (by kernel_rfl) (by kernel_rfl) (fun _ _ _ h => h) (Or.inr ⟨by rfl, rfl⟩) (by assumption) ?_
          try simp only [Act.put, List.getElem_toArray, List.getElem_cons_zero, List.getElem_cons_succ, List.setIfInBounds_toArray, List.set_cons_zero, List.set_cons_succ]
          refine wpAnyH_take (i := 15) (oi := _) (v := undef) rfl (by kernel_rfl) (by kernel_rfl) (by kernel_rfl) (fun _ _ _ h => h) (Or.inr ⟨by rfl, rfl⟩) (by assumption) ?_
          try simp only [Act.put, List.getElem_toArray, List.getElem_cons_zero, List.getElem_cons_succ, List.setIfInBounds_toArray, List.set_cons_zero, List.set_cons_succ]
          refine wpAnyH_take (i := 16) (oi := _) (v := ?_) rfl (by kernel_rfl) (by kernel_rfl) (by kernel_rfl) (fun _ _ _ h => h) (Or.inl ⟨by rfl, ?_⟩) (by assumption) ?_
          rotate_left
          · (intro w hSw; (try dsimp only at hSw); go_simp; try with_reducible rfl)
          try simp only [Act.put, List.getElem_toArray, List.getElem_cons_zero, List.getElem_cons_succ, List.setIfInBounds_toArray, List.set_cons_zero, List.set_cons_succ]
          refine wpAnyH_done (by kernel_rfl) ?_ _
          go_wp2
          go_roundw
          case rel => exact ⟨i + 1, by go_num, by omega, by omega, Lib.hid ⟨l1, HK.out, Srt.drew HS.out⟩⟩
          case measure => simp [intOf]; omega
        obtain ⟨k, hjk⟩ : ∃ k, j = k + 1 := ⟨j - 1, by omega⟩
        have hjk1 : (a : Int) < (j : Int) := by omega
        have hjk2 : (j : Int) - 1 = (k : Int) := by omega
        have hkn : k + 1 < n := by omega
        have hjn : (j : Int) < (n : Int) := by omega
        have hkn2 : (k : Int) < (n : Int) := by omega
        have hjw : IntKind.i64.wrap (j : Int) = (j : Int) := wrap_i64 (by omega) (by omega)
        have hkw : IntKind.i64.wrap (k : Int) = (k : Int) := wrap_i64 (by omega) (by omega)
        have hsd := Srt.drew HS.out
        have hj9 : j < l1.length := by rw [HLN.out]; omega
        have hk9 : k < l1.length := by rw [HLN.out]; omega
        have hcx := (hsd.cell j hj9).1
        have hcy := (hsd.cell k hk9).1
        have hbs := hsd.base
        obtain ⟨x, hx⟩ : ∃ x, x = l1[j] := ⟨_, rfl⟩
        obtain ⟨y, hy⟩ : ∃ y, y = l1[k] := ⟨_, rfl⟩
        rw [← hx] at hcx
        rw [← hy] at hcy
        have HXY := Lib.hid (And.intro hx hy)
        have HJK := Lib.hid hjk
        obtain ⟨d, hd⟩ : ∃ d, d = keyS base x - keyS base y := ⟨_, rfl⟩
        have HD := Lib.hid hd
        clear hx hy hsd hjk hd
        go_upto_region 4 with fail
        refine wp_region_held_drew (S := (fun w' => w'.cell? ⟨g, j, none⟩ = some (.int .u16 x) ∧ w'.cell? ⟨g, k, none⟩ = some (.int .u16 y))) (by kernel_rfl) (by (try dsimp only); exact ⟨hcx, hcy⟩) (fun hHeld => ?_)
        refine wpAnyH_take (i := 0) (oi := _) (v := ?_) rfl (by kernel_rfl) (by kernel_rfl) (by kernel_rfl) (fun _ _ _ h => h) (Or.inl ⟨by rfl, ?_⟩) (by assumption) ?_
        rotate_left
        · (intro w hSw; (try dsimp only at hSw); go_simp; try with_reducible rfl)
        try simp only [Act.put, List.getElem_toArray, List.getElem_cons_zero, List.getElem_cons_succ, List.setIfInBounds_toArray, List.set_cons_zero, List.set_cons_succ]
        refine wpAnyH_take (i := 1) (oi := _) (v := ?_) rfl (by kernel_rfl) (by kernel_rfl) (by kernel_rfl) (fun _ _ _ h => h) (Or.inl ⟨by rfl, ?_⟩) (by assumption) ?_
        rotate_left
        · (intro w hSw; (try dsimp only at hSw); go_simp; try with_reducible rfl)
        try simp only [Act.put, List.getElem_toArray, List.getElem_cons_zero, List.getElem_cons_succ, List.setIfInBounds_toArray, List.set_cons_zero, List.set_cons_succ]
        refine wpAnyH_take (i := 2) (oi := _) (v := ?_) rfl (by kernel_rfl) (by kernel_rfl) (by kernel_rfl) (fun _ _ _ h => h) (Or.inl ⟨by rfl, ?_⟩) (by assumption) ?_
        rotate_left
        · (intro w hSw; (try dsimp only at hSw); go_simp; try with_reducible rfl)
        try simp only [Act.put, List.getElem_toArray, List.getElem_cons_zero, List.getElem_cons_succ, List.setIfInBounds_toArray, List.set_cons_zero, List.set_cons_succ]
        refine wpAnyH_take (i := 3) (oi := _) (v := ?_) rfl (by kernel_rfl) (by kernel_rfl) (by kernel_rfl) (fun _ _ _ h => h) (Or.inl ⟨by rfl, ?_⟩) (by assumption) ?_
        rotate_left
        · (intro w hSw; (try dsimp only at hSw); go_simp; try with_reducible rfl)
        try simp only [Act.put, List.getElem_toArray, List.getElem_cons_zero, List.getElem_cons_succ, List.setIfInBounds_toArray, List.set_cons_zero, List.set_cons_succ]
        refine wpAnyH_take (i := 4) (oi := _) (v := ?_) rfl (by kernel_rfl) (by kernel_rfl) (by kernel_rfl) (fun _ _ _ h => h) (Or.inl ⟨by rfl, ?_⟩) (by assumption) ?_
        rotate_left
        · (intro w hSw; (try dsimp only at hSw); go_simp; try with_reducible rfl)
        try simp only [Act.put, List.getElem_toArray, List.getElem_cons_zero, List.getElem_cons_succ, List.setIfInBounds_toArray, List.set_cons_zero, List.set_cons_succ]
        refine wpAnyH_take (i := 5) (oi := _) (v := ?_) rfl (by kernel_rfl) (by kernel_rfl) (by kernel_rfl) (fun _ _ _ h => h) (Or.inl ⟨by rfl, ?_⟩) (by assumption) ?_
        rotate_left
        · (intro w hSw; (try dsimp only at hSw); go_simp; try with_reducible rfl)
        try simp only [Act.put, List.getElem_toArray, List.getElem_cons_zero, List.getElem_cons_succ, List.setIfInBounds_toArray, List.set_cons_zero, List.set_cons_succ]
        refine wpAnyH_take (i := 6) (oi := _) (v := ?_) rfl (by kernel_rfl) (by kernel_rfl) (by kernel_rfl) (fun _ _ _ h => h) (Or.inl ⟨by rfl, ?_⟩) (by assumption) ?_
        rotate_left
        · (intro w hSw; (try dsimp only at hSw); go_simp; try with_reducible rfl)
        try simp only [Act.put, List.getElem_toArray, List.getElem_cons_zero, List.getElem_cons_succ, List.setIfInBounds_toArray, List.set_cons_zero, List.set_cons_succ]
        refine wpAnyH_take (i := 7) (oi := _) (v := ?_) rfl (by kernel_rfl) (by kernel_rfl) (by kernel_rfl) (fun _ _ _ h => h) (Or.inl ⟨by rfl, ?_⟩) (by assumption) ?_
        rotate_left
        · (intro w hSw; (try dsimp only at hSw); go_simp; try with_reducible rfl)
        try simp only [Act.put, List.getElem_toArray, List.getElem_cons_zero, List.getElem_cons_succ, List.setIfInBounds_toArray, List.set_cons_zero, List.set_cons_succ]
        refine wpAnyH_take (i := 8) (oi := _) (v := ?_) rfl (by kernel_rfl) (by kernel_rfl) (by kernel_rfl) (fun _ _ _ h => h) (Or.inl ⟨by rfl, ?_⟩) (by assumption) ?_
        rotate_left
        · (intro w hSw; (try dsimp only at hSw); go_simp; try with_reducible rfl)
        try simp only [Act.put, List.getElem_toArray, List.getElem_cons_zero, List.getElem_cons_succ, List.setIfInBounds_toArray, List.set_cons_zero, List.set_cons_succ]
        refine wpAnyH_take (i := 9) (oi := _) (v := ?_) rfl (by kernel_rfl) (by kernel_rfl) (by kernel_rfl) (fun _ _ _ h => h) (Or.inl ⟨by rfl, ?_⟩) (by assumption) ?_
        rotate_left
        · (intro w hSw; (try dsimp only at hSw); go_simp; try with_reducible rfl)
        try simp only [Act.put, List.getElem_toArray, List.getElem_cons_zero, List.getElem_cons_succ, List.setIfInBounds_toArray, List.set_cons_zero, List.set_cons_succ]
        refine wpAnyH_take (i := 10) (oi := _) (v := ?_) rfl (by kernel_rfl) (by kernel_rfl) (by kernel_rfl) (fun _ _ _ h => h) (Or.inl ⟨by rfl, ?_⟩) (by assumption) ?_
        rotate_left
        · (intro w hSw; (try dsimp only at hSw); go_simp; try with_reducible rfl)
        try simp only [Act.put, List.getElem_toArray, List.getElem_cons_zero, List.getElem_cons_succ, List.setIfInBounds_toArray, List.set_cons_zero, List.set_cons_succ]
        refine wpAnyH_take (i := 11) (oi := _) (v := ?_) rfl (by kernel_rfl) (by kernel_rfl) (by kernel_rfl) (fun _ _ _ h => h) (Or.inl ⟨by rfl, ?_⟩) (by assumption) ?_
        rotate_left
        · (intro w hSw; (try dsimp only at hSw); go_simp; try with_reducible rfl)
        try simp only [Act.put, List.getElem_toArray, List.getElem_cons_zero, List.getElem_cons_succ, List.setIfInBounds_toArray, List.set_cons_zero, List.set_cons_succ]
        refine wpAnyH_take (i := 12) (oi := _) (v := ?_) rfl (by kernel_rfl) (by kernel_rfl) (by kernel_rfl) (fun _ _ _ h => h) (Or.inl ⟨by rfl, ?_⟩) (by assumption) ?_
        rotate_left
        · (intro w hSw; (try dsimp only at hSw); go_simp; try with_reducible rfl)
        try simp only [Act.put, List.getElem_toArray, List.getElem_cons_zero, List.getElem_cons_succ, List.setIfInBounds_toArray, List.set_cons_zero, List.set_cons_succ]
        refine wpAnyH_take (i := 13) (oi := _) (v := ?_) rfl (by kernel_rfl) (by kernel_rfl) (by kernel_rfl) (fun _ _ _ h => h) (Or.inl ⟨by rfl, ?_⟩) (by assumption) ?_
        rotate_left
        · (intro w hSw; (try dsimp only at hSw); go_simp; try with_reducible rfl)
        try simp only [Act.put, List.getElem_toArray, List.getElem_cons_zero, List.getElem_cons_succ, List.setIfInBounds_toArray, List.set_cons_zero, List.set_cons_succ]
        refine wpAnyH_ready (rs := [14]) (by kernel_rfl) (by simp) ?_
        refine AllReadyH.cons (o := _) rfl (fun K hK => ?_) AllReadyH.nil
        go_simp
        go_at_call 65; refine (cmpD _ B base x y d HD.out hbs).mono ?_; rintro e w2 ⟨rfl, hw⟩; subst hw
        try clear hHeld
        refine hK.out _ _ (by (try dsimp only); exact ⟨hcx, hcy⟩) (fun hHeld => ?_)
        clear hK K
        try simp only [Act.put, List.getElem_toArray, List.getElem_cons_zero, List.getElem_cons_succ, List.setIfInBounds_toArray, List.set_cons_zero, List.set_cons_succ]
        refine wpAnyH_take (i := 15) (oi := _) (v := ?_) rfl (by kernel_rfl) (by kernel_rfl) (by kernel_rfl) (fun _ _ _ h => h) (Or.inl ⟨by rfl, ?_⟩) (by assumption) ?_
        rotate_left
        · (intro w hSw; (try dsimp only at hSw); go_simp; try with_reducible rfl)
        try simp only [Act.put, List.getElem_toArray, List.getElem_cons_zero, List.getElem_cons_succ, List.setIfInBounds_toArray, List.set_cons_zero, List.set_cons_succ]
        refine wpAnyH_take (i := 16) (oi := _) (v := ?_) rfl (by kernel_rfl) (by kernel_rfl) (by kernel_rfl) (fun _ _ _ h => h) (Or.inl ⟨by rfl, ?_⟩) (by assumption) ?_
        rotate_left
        · (intro w hSw; (try dsimp only at hSw); go_simp; try with_reducible rfl)
        try simp only [Act.put, List.getElem_toArray, List.getElem_cons_zero, List.getElem_cons_succ, List.setIfInBounds_toArray, List.set_cons_zero, List.set_cons_succ]
        refine wpAnyH_done (by kernel_rfl) ?_ _
        clear hbs
        have HS1 := Lib.hid (Srt.drew HS.out)
        clear HS
        generalize World.drew wr = W1 at HS1 hcx hcy hHeld ⊢
        clear hcx hcy hHeld
        by_cases hdp : 0 ≤ d
        · have hdb : (d < 0) = False := eq_false (by omega)
          have hdc : decide (d < 0) = false := decide_eq_false (by omega)
          go_wp2
          go_roundw
          case rel => exact ⟨i + 1, by go_num, by omega, by omega, Lib.hid ⟨l1, HK.out, HS1.out⟩⟩
          case measure => simp [intOf]; omega
        have hdn : d < 0 := by omega
        have hdb : decide (d < 0) = true := decide_eq_true hdn
        have hx9 := hj9
        have hy9 := hk9
        go_upto_region 6 with fail
        have hsd := HS1.out
        obtain ⟨c1, c2, c3⟩ := hsd.cell j hx9
        obtain ⟨c4, c5, c6⟩ := hsd.cell k hy9
        obtain ⟨vx, hvx⟩ : ∃ v, v = l1[j] := ⟨_, rfl⟩
        obtain ⟨vy, hvy⟩ : ∃ v, v = l1[k] := ⟨_, rfl⟩
        have hs1 := hsd.set j hx9 l1[k]
        have hs2 := hs1.set k (by rw [List.length_set]; exact hy9) l1[j]
        have HS3 := Lib.hid (show Srt I M g c B base (swapL l1 j k hx9 hy9) _ from Srt.drew hs2)
        rw [← hvx, ← hvy] at HS3
        rw [← hvx] at c1
        rw [← hvy] at c4 hs1
        obtain ⟨d1, d2, d3⟩ := hs1.cell k (by rw [List.length_set]; exact hy9)
        clear hsd hs1 hs2 hvx hvy
        
        go_region
        go_wp2
        go_roundw
        case rel =>
          refine ⟨k, by have := HJK.out; go_num, by have := HJK.out; omega, by have := HJK.out; omega, Lib.hid ⟨swapL l1 j k hx9 hy9, HK.out.trans (Kept.un swapL_len (swapL_rng HK.out.rng) (fun hsr => ?_)), HS3.out⟩⟩
          have h1 := hsr k j (by have := HJK.out; omega) hj9
          rw [← HXY.out.1, ← HXY.out.2] at h1
          have h2 := HD.out
          omega
        case measure => have := HJK.out; simp [intOf]; omega
    · have hf : ∃ l', Kept base l l' ∧ Srt I M g c B base l' wr := hh.out
      have HF := Lib.hid hf
      clear hf hh
      go_wp2
      go_returns
      exact ⟨rfl, HF.out⟩
end Go.Proofs.Ytddopbbmgpnjjaa
namespace Go.Proofs.Ytddopbbmgpnjjaa
open Go.RowKit
set_option linter.unusedSimpArgs false

/-- what a function of the sort does that may turn anything -/
def DoesU (I : Img) (M : List Res) (g c B : Nat) (base : Int) (n : Nat) : Ending → World → Prop := fun e w' => e = .returned (.tuple #[]) ∧ ∃ l', (l'.length = n ∧ Rng l') ∧ Srt I M g c B base l' w'
set_option maxRecDepth 8000 in
set_option maxHeartbeats 8000000 in
theorem swapRangeC (I : Img) (M : List Res) (w : World) (g c B n : Nat) (base : Int) (l : List Int) (a b k : Nat) (hn : l.length = n) (ha : a + k ≤ n) (hb : b + k ≤ n) (hn1 : n ≤ 1000000) (hr : Rng l) (hst : Srt I M g c B base l w) :
    Calls Try.prog 76 #[.slice (some ⟨g, 0, none⟩) n c, .int .i64 a, .int .i64 b, .int .i64 k, .func (.func 65) #[] #[.pointer (some ⟨B, 0, none⟩)]] w (DoesU I M g c B base n) := by
  have HS := Lib.hid hst
  have HR := Lib.hid hr
  have HN := Lib.hid hn
  have hcap := hst.cap
  rw [hn] at hcap
  clear hst hr hn
  go_enter Try.func76, Try.ntmps76
  go_upto_region 1 with fail
  go_loopw [10] (fun iv wr => ∃ i : Nat, iv = .int .i64 i ∧ i ≤ k ∧ Hid (∃ l1, (l1.length = n ∧ Rng l1) ∧ Srt I M g c B base l1 wr)) (fun iv _ => k - (intOf iv).toNat)
  case atStart => exact ⟨0, by go_num, by omega, Lib.hid ⟨l, ⟨HN.out, HR.out⟩, HS.out⟩⟩
  case round =>
    obtain ⟨i, rfl, hi, hh⟩ := hrel
    clear HS
    by_cases hik : i < k
    · skip
      obtain ⟨l1, ⟨hl1, hr1⟩, hs⟩ := hh.out
      clear hh
      obtain ⟨x, hx⟩ : ∃ x, x = a + i := ⟨_, rfl⟩
      obtain ⟨y, hy⟩ : ∃ y, y = b + i := ⟨_, rfl⟩
      have hx9 : x < l1.length := by rw [hl1]; omega
      have hy9 : y < l1.length := by rw [hl1]; omega
      have hxa : (a : Int) + (i : Int) = (x : Int) := by omega
      have hyb : (b : Int) + (i : Int) = (y : Int) := by omega
      have hxn : (x : Int) < (n : Int) := by omega
      have hyn : (y : Int) < (n : Int) := by omega
      have hxw : IntKind.i64.wrap (x : Int) = (x : Int) := wrap_i64 (by omega) (by omega)
      have hyw : IntKind.i64.wrap (y : Int) = (y : Int) := wrap_i64 (by omega) (by omega)
      have HS1 := Lib.hid hs
      have HL1 := Lib.hid (And.intro hl1 hr1)
      clear hs hl1 hr1 hx hy
      go_upto_region 3 with fail
      have hsd := HS1.out
      obtain ⟨c1, c2, c3⟩ := hsd.cell x hx9
      obtain ⟨c4, c5, c6⟩ := hsd.cell y hy9
      obtain ⟨vx, hvx⟩ : ∃ v, v = l1[x] := ⟨_, rfl⟩
      obtain ⟨vy, hvy⟩ : ∃ v, v = l1[y] := ⟨_, rfl⟩
      have hs1 := hsd.set x hx9 l1[y]
      have hs2 := hs1.set y (by rw [List.length_set]; exact hy9) l1[x]
      have HS3 := Lib.hid (show Srt I M g c B base (swapL l1 x y hx9 hy9) _ from Srt.drew hs2)
      rw [← hvx, ← hvy] at HS3
      rw [← hvx] at c1
      rw [← hvy] at c4 hs1
      obtain ⟨d1, d2, d3⟩ := hs1.cell y (by rw [List.length_set]; exact hy9)
      clear hsd hs1 hs2 hvx hvy
      
      go_region
      go_wp2
      go_roundw
      case rel => exact ⟨i + 1, by go_num, by omega, Lib.hid ⟨swapL l1 x y hx9 hy9, ⟨swapL_len.trans HL1.out.1, swapL_rng HL1.out.2⟩, HS3.out⟩⟩
      case measure => simp [intOf]; omega
    · have hf : ∃ l', (l'.length = n ∧ Rng l') ∧ Srt I M g c B base l' wr := hh.out
      have HF := Lib.hid hf
      clear hf hh
      go_wp2
      go_returns
      exact ⟨rfl, HF.out⟩
set_option maxRecDepth 8000 in
set_option maxHeartbeats 8000000 in
theorem rotateC (I : Img) (M : List Res) (w : World) (g c B n : Nat) (base : Int) (l : List Int) (a m b : Nat) (hn : l.length = n) (ham : a < m) (hmb : m < b) (hb : b ≤ n) (hn1 : n ≤ 1000000) (hr : Rng l) (hst : Srt I M g c B base l w) :
    Calls Try.prog 75 #[.slice (some ⟨g, 0, none⟩) n c, .int .i64 a, .int .i64 m, .int .i64 b, .func (.func 65) #[] #[.pointer (some ⟨B, 0, none⟩)]] w (DoesU I M g c B base n) := by
  have HS := Lib.hid hst
  have HR := Lib.hid hr
  have HN := Lib.hid hn
  clear hst hr hn
  go_enter Try.func75, Try.ntmps75
  go_upto_region 2 with fail
  go_loopw [10, 11] (fun iv jv wr => ∃ i j : Nat, iv = .int .i64 i ∧ jv = .int .i64 j ∧ 1 ≤ i ∧ 1 ≤ j ∧ i ≤ m ∧ m + j ≤ n ∧ Hid (∃ l1, (l1.length = n ∧ Rng l1) ∧ Srt I M g c B base l1 wr)) (fun iv jv _ => (intOf iv).toNat + (intOf jv).toNat)
  case atStart => exact ⟨m - a, b - m, by go_num, by go_num, by omega, by omega, by omega, by omega, Lib.hid ⟨l, ⟨HN.out, HR.out⟩, HS.out⟩⟩
  case round =>
    obtain ⟨i, j, rfl, rfl, hi, hj, him, hmj, hh⟩ := hrel
    clear HS
    obtain ⟨l1, ⟨hl1, hr1⟩, hs⟩ := hh.out
    clear hh
    obtain ⟨p, hp⟩ : ∃ p, p = m - i := ⟨_, rfl⟩
    have hpi : (m : Int) - (i : Int) = (p : Int) := by omega
    rcases Nat.lt_trichotomy i j with hij | hij | hij
    · obtain ⟨q, hq⟩ : ∃ q, q = m + j - i := ⟨_, rfl⟩
      have hqi : (m : Int) + (j : Int) - (i : Int) = (q : Int) := by omega
      obtain ⟨j2, hj2⟩ : ∃ j2, j2 = j - i := ⟨_, rfl⟩
      have hji : (j : Int) - (i : Int) = (j2 : Int) := by omega
      have HC := Lib.hid (swapRangeC I M wr g c B n base l1 p q i hl1 (by omega) (by omega) hn1 hr1 hs)
      have hne : ((i : Int) != (j : Int)) = true := by rw [bne_iff_ne]; omega
      have HQ := Lib.hid (And.intro hp (And.intro hq hj2))
      clear hs hl1 hr1 hp hq hj2
      go_wp2_with fail
      go_at_call 76
      refine HC.out.mono ?_
      clear HC
      rintro e w2 ⟨rfl, hf⟩
      have HF := Lib.hid hf
      clear hf
      go_wp2
      go_roundw
      case rel => exact ⟨i, j2, rfl, by go_num, hi, by have := HQ.out; omega, him, by have := HQ.out; omega, HF⟩
      case measure => have := HQ.out; simp [intOf]; omega
    · subst hij
      have HC := Lib.hid (swapRangeC I M wr g c B n base l1 p m i hl1 (by omega) (by omega) hn1 hr1 hs)
      clear hs hl1 hr1 hp
      go_wp2_with fail
      go_at_call 76
      refine HC.out.mono ?_
      clear HC
      rintro e w2 ⟨rfl, hf⟩
      have HF := Lib.hid hf
      clear hf
      go_wp2
      go_returns
      exact ⟨rfl, HF.out⟩
    · obtain ⟨j2, hj2⟩ : ∃ j2, j2 = i - j := ⟨_, rfl⟩
      have hji : (i : Int) - (j : Int) = (j2 : Int) := by omega
      have HC := Lib.hid (swapRangeC I M wr g c B n base l1 p m j hl1 (by omega) (by omega) hn1 hr1 hs)
      have hne : ((i : Int) != (j : Int)) = true := by rw [bne_iff_ne]; omega
      have HQ := Lib.hid (And.intro hp hj2)
      clear hs hl1 hr1 hp hj2
      go_wp2_with fail
      go_at_call 76
      refine HC.out.mono ?_
      clear HC
      rintro e w2 ⟨rfl, hf⟩
      have HF := Lib.hid hf
      clear hf
      go_wp2
      go_roundw
      case rel => exact ⟨j2, j, by go_num, rfl, by have := HQ.out; omega, hj, by have := HQ.out; omega, hmj, HF⟩
      case measure => have := HQ.out; simp [intOf]; omega
end Go.Proofs.Ytddopbbmgpnjjaa
namespace Go.Proofs.Ytddopbbmgpnjjaa
open Go.RowKit
set_option linter.unusedSimpArgs false

theorem sort_le {base : Int} {l : List Int} (h : SortK base l) {i j : Nat} (hi : i < l.length) (hj : j < l.length) (hij : i ≤ j) : keyS base l[i] ≤ keyS base l[j] := by
  rcases Nat.lt_or_ge i j with h1 | h1
  · exact h i j h1 hj
  · have : i = j := by omega
    subst this
    exact Int.le_refl _
set_option maxRecDepth 8000 in
set_option maxHeartbeats 8000000 in
theorem symC (I : Img) (M : List Res) (g c B n : Nat) (base : Int) (hn1 : n ≤ 1000000) : ∀ (N : Nat) (l : List Int) (w : World) (a m b : Nat), b - a ≤ N → l.length = n → a < m → m < b → b ≤ n → Rng l → Srt I M g c B base l w →
    Calls Try.prog 74 #[.slice (some ⟨g, 0, none⟩) n c, .int .i64 a, .int .i64 m, .int .i64 b, .func (.func 65) #[] #[.pointer (some ⟨B, 0, none⟩)]] w (Does I M g c B base l) := by
  intro N
  induction N with
  | zero => intro l w a m b h0 _ h1 h2; omega
  | succ N ih =>
  intro l w a m b hN hn ham hmb hb hr hst
  have IH := Lib.hid ih
  have HS := Lib.hid hst
  have HR := Lib.hid hr
  have HN := Lib.hid hn
  have hcap := hst.cap
  rw [hn] at hcap
  clear hst hr hn ih
  have ha1 : (a : Int) < (n : Int) := by omega
  have hm1 : (m : Int) < (n : Int) := by omega
  have haw : IntKind.i64.wrap (a : Int) = (a : Int) := wrap_i64 (by omega) (by omega)
  have hmw : IntKind.i64.wrap (m : Int) = (m : Int) := wrap_i64 (by omega) (by omega)
  by_cases hA : m - a = 1
  · have hA1 : ((m : Int) - (a : Int) == 1) = true := by rw [beq_iff_eq]; omega
    have hA2 : (m : Int) - (a : Int) = 1 := by omega
    go_enter Try.func74, Try.ntmps74
    go_upto_region 3 with fail
    go_loopw [10, 11] (fun iv jv wr => ∃ i j : Nat, iv = .int .i64 i ∧ jv = .int .i64 j ∧ m ≤ i ∧ i ≤ j ∧ j ≤ b ∧ Hid ((SortK base l → i = m) ∧ Srt I M g c B base l wr)) (fun iv jv _ => (intOf jv).toNat - (intOf iv).toNat)
    case atStart => exact ⟨m, b, rfl, rfl, by omega, by omega, by omega, Lib.hid ⟨fun _ => rfl, HS.out⟩⟩
    case round =>
      obtain ⟨i, j, rfl, rfl, hi, hij, hj, hh⟩ := hrel
      clear HS
      obtain ⟨hso, hs⟩ := hh.out
      clear hh
      have HSO := Lib.hid hso
      have HS := Lib.hid hs
      clear hso hs
      by_cases hlt : i < j
      · skip
        obtain ⟨h, hh⟩ : ∃ h, h = (i + j) / 2 := ⟨_, rfl⟩
        have hh1 : (((i : Nat) : Int) + ((j : Nat) : Int)) / 2 = (h : Int) := by omega
        have hh2 : i ≤ h ∧ h < j := by omega
        obtain ⟨hh3, hh4⟩ := hh2
        have hhn : (h : Int) < (n : Int) := by omega
        have hhw : IntKind.i64.wrap (h : Int) = (h : Int) := wrap_i64 (by omega) (by omega)
        clear hh
        have hx9 : h < l.length := by rw [HN.out]; omega
        have hy9 : a < l.length := by rw [HN.out]; omega
        go_upto_region 5 with fail
        obtain ⟨c1, c2, c3⟩ := (Srt.drew HS.out).cell h hx9
        obtain ⟨c4, c5, c6⟩ := (Srt.drew HS.out).cell a hy9
        have hbs := (Srt.drew HS.out).base
        obtain ⟨vx, hvx⟩ : ∃ v, v = l[h] := ⟨_, rfl⟩
        obtain ⟨vy, hvy⟩ : ∃ v, v = l[a] := ⟨_, rfl⟩
        obtain ⟨d, hd⟩ : ∃ d, d = keyS base vx - keyS base vy := ⟨_, rfl⟩
        have HD := Lib.hid hd
        have HV := Lib.hid (show d = keyS base l[h] - keyS base l[a] by rw [hd, hvx, hvy])
        rw [← hvx] at c1
        rw [← hvy] at c4
        clear hvx hvy hd
        refine wp_region_held_drew (S := (fun w' => w'.cell? ⟨g, h, none⟩ = some (.int .u16 vx) ∧ w'.cell? ⟨g, a, none⟩ = some (.int .u16 vy))) (by kernel_rfl) (by (try dsimp only); exact ⟨c1, c4⟩) (fun hHeld => ?_)
        refine wpAnyH_take (i := 0) (oi := _) (v := ?_) rfl (by kernel_rfl) (by kernel_rfl) (by kernel_rfl) (fun _ _ _ h => h) (Or.inl ⟨by rfl, ?_⟩) (by assumption) ?_
        rotate_left
        · (intro w hSw; (try dsimp only at hSw); go_simp; try with_reducible rfl)
        try simp only [Act.put, List.getElem_toArray, List.getElem_cons_zero, List.getElem_cons_succ, List.setIfInBounds_toArray, List.set_cons_zero, List.set_cons_succ]
        refine wpAnyH_take (i := 1) (oi := _) (v := ?_) rfl (by kernel_rfl) (by kernel_rfl) (by kernel_rfl) (fun _ _ _ h => h) (Or.inl ⟨by rfl, ?_⟩) (by assumption) ?_
        rotate_left
        · (intro w hSw; (try dsimp only at hSw); go_simp; try with_reducible rfl)
        try simp only [Act.put, List.getElem_toArray, List.getElem_cons_zero, List.getElem_cons_succ, List.setIfInBounds_toArray, List.set_cons_zero, List.set_cons_succ]
        refine wpAnyH_take (i := 2) (oi := _) (v := ?_) rfl (by kernel_rfl) (by kernel_rfl) (by kernel_rfl) (fun _ _ _ h => h) (Or.inl ⟨by rfl, ?_⟩) (by assumption) ?_
        rotate_left
        · (intro w hSw; (try dsimp only at hSw); go_simp; try with_reducible rfl)
        try simp only [Act.put, List.getElem_toArray, List.getElem_cons_zero, List.getElem_cons_succ, List.setIfInBounds_toArray, List.set_cons_zero, List.set_cons_succ]
        refine wpAnyH_take (i := 3) (oi := _) (v := ?_) rfl (by kernel_rfl) (by kernel_rfl) (by kernel_rfl) (fun _ _ _ h => h) (Or.inl ⟨by rfl, ?_⟩) (by assumption) ?_
        rotate_left
        · (intro w hSw; (try dsimp only at hSw); go_simp; try with_reducible rfl)
        try simp only [Act.put, List.getElem_toArray, List.getElem_cons_zero, List.getElem_cons_succ, List.setIfInBounds_toArray, List.set_cons_zero, List.set_cons_succ]
        refine wpAnyH_take (i := 4) (oi := _) (v := ?_) rfl (by kernel_rfl) (by kernel_rfl) (by kernel_rfl) (fun _ _ _ h => h) (Or.inl ⟨by rfl, ?_⟩) (by assumption) ?_
        rotate_left
        · (intro w hSw; (try dsimp only at hSw); go_simp; try with_reducible rfl)
        try simp only [Act.put, List.getElem_toArray, List.getElem_cons_zero, List.getElem_cons_succ, List.setIfInBounds_toArray, List.set_cons_zero, List.set_cons_succ]
        refine wpAnyH_take (i := 5) (oi := _) (v := ?_) rfl (by kernel_rfl) (by kernel_rfl) (by kernel_rfl) (fun _ _ _ h => h) (Or.inl ⟨by rfl, ?_⟩) (by assumption) ?_
        rotate_left
        · (intro w hSw; (try dsimp only at hSw); go_simp; try with_reducible rfl)
        try simp only [Act.put, List.getElem_toArray, List.getElem_cons_zero, List.getElem_cons_succ, List.setIfInBounds_toArray, List.set_cons_zero, List.set_cons_succ]
        refine wpAnyH_take (i := 6) (oi := _) (v := ?_) rfl (by kernel_rfl) (by kernel_rfl) (by kernel_rfl) (fun _ _ _ h => h) (Or.inl ⟨by rfl, ?_⟩) (by assumption) ?_
        rotate_left
        · (intro w hSw; (try dsimp only at hSw); go_simp; try with_reducible rfl)
        try simp only [Act.put, List.getElem_toArray, List.getElem_cons_zero, List.getElem_cons_succ, List.setIfInBounds_toArray, List.set_cons_zero, List.set_cons_succ]
        refine wpAnyH_take (i := 7) (oi := _) (v := ?_) rfl (by kernel_rfl) (by kernel_rfl) (by kernel_rfl) (fun _ _ _ h => h) (Or.inl ⟨by rfl, ?_⟩) (by assumption) ?_
        rotate_left
        · (intro w hSw; (try dsimp only at hSw); go_simp; try with_reducible rfl)
        try simp only [Act.put, List.getElem_toArray, List.getElem_cons_zero, List.getElem_cons_succ, List.setIfInBounds_toArray, List.set_cons_zero, List.set_cons_succ]
        refine wpAnyH_take (i := 8) (oi := _) (v := ?_) rfl (by kernel_rfl) (by kernel_rfl) (by kernel_rfl) (fun _ _ _ h => h) (Or.inl ⟨by rfl, ?_⟩) (by assumption) ?_
        rotate_left
        · (intro w hSw; (try dsimp only at hSw); go_simp; try with_reducible rfl)
        try simp only [Act.put, List.getElem_toArray, List.getElem_cons_zero, List.getElem_cons_succ, List.setIfInBounds_toArray, List.set_cons_zero, List.set_cons_succ]
        refine wpAnyH_ready (rs := [9]) (by kernel_rfl) (by simp) ?_
        refine AllReadyH.cons (o := _) rfl (fun K hK => ?_) AllReadyH.nil
        go_simp
        go_at_call 65; refine (cmpD _ B base vx vy d HD.out hbs).mono ?_; rintro e w2 ⟨rfl, hw⟩; subst hw
        try clear hHeld
        refine hK.out _ _ (by (try dsimp only); exact ⟨c1, c4⟩) (fun hHeld => ?_)
        clear hK K
        try simp only [Act.put, List.getElem_toArray, List.getElem_cons_zero, List.getElem_cons_succ, List.setIfInBounds_toArray, List.set_cons_zero, List.set_cons_succ]
        refine wpAnyH_take (i := 10) (oi := _) (v := ?_) rfl (by kernel_rfl) (by kernel_rfl) (by kernel_rfl) (fun _ _ _ h => h) (Or.inl ⟨by rfl, ?_⟩) (by assumption) ?_
        rotate_left
        · (intro w hSw; (try dsimp only at hSw); go_simp; try with_reducible rfl)
        try simp only [Act.put, List.getElem_toArray, List.getElem_cons_zero, List.getElem_cons_succ, List.setIfInBounds_toArray, List.set_cons_zero, List.set_cons_succ]
        refine wpAnyH_done (by kernel_rfl) ?_ _
        have HS1 := Lib.hid (Srt.drew HS.out)
        generalize World.drew wr = W1 at HS1 hbs c1 c2 c3 c4 c5 c6 hHeld ⊢
        clear hbs c1 c2 c3 c4 c5 c6 hHeld HD
        by_cases hdp : 0 ≤ d
        · have hdb : (d < 0) = False := eq_false (by omega)
          have hd1 : decide (d < 0) = false := decide_eq_false (by omega)
          have hd2 : (!decide (d < 0)) = true := by rw [hd1]; rfl
          have hd3 : decide (0 ≤ d) = true := decide_eq_true hdp
          go_wp2
          go_roundw
          case rel => exact ⟨i, h, rfl, rfl, hi, by omega, by omega, Lib.hid ⟨HSO.out, HS1.out⟩⟩
          case measure => simp [intOf]; omega
        · have hdn : d < 0 := by omega
          have hdq : (0 ≤ d) = False := eq_false (by omega)
          have hd1 : decide (d < 0) = true := decide_eq_true hdn
          have hd2 : (!decide (d < 0)) = false := by rw [hd1]; rfl
          have hd3 : decide (0 ≤ d) = false := decide_eq_false (by omega)
          go_wp2
          go_roundw
          case rel =>
            refine ⟨h + 1, j, by go_num, rfl, by omega, by omega, hj, Lib.hid ⟨fun hs => ?_, HS1.out⟩⟩
            have h1 := sort_le hs hy9 hx9 (by omega)
            have h2 := HV.out
            omega
          case measure => simp [intOf]; omega
      · have hije : i = j := by omega
        subst hije
        go_upto_region 9 with fail
        go_loopw [13] (fun kv wr => ∃ k : Nat, kv = .int .i64 k ∧ a ≤ k ∧ k ≤ i ∧ Hid (∃ l1, Kept base l l1 ∧ Srt I M g c B base l1 wr)) (fun kv _ => i - (intOf kv).toNat)
        case atStart => exact ⟨a, rfl, by omega, by omega, Lib.hid ⟨l, .refl HR.out, HS.out⟩⟩
        case round =>
          obtain ⟨k, rfl, hk1, hk2, hh⟩ := hrel
          clear HS
          obtain ⟨l1, hkp, hs⟩ := hh.out
          clear hh
          have HKP := Lib.hid hkp
          have HS := Lib.hid hs
          by_cases hki : k + 1 < i
          · skip
            have hki2 : (k : Int) < (i : Int) - 1 := by omega
            obtain ⟨k2, hk3⟩ : ∃ k2, k2 = k + 1 := ⟨_, rfl⟩
            have hk4 : (k : Int) + 1 = (k2 : Int) := by omega
            have hx9 : k < l1.length := by rw [hkp.len, HN.out]; omega
            have hy9 : k2 < l1.length := by rw [hkp.len, HN.out]; omega
            have hkn : (k : Int) < (n : Int) := by omega
            have hkn2 : (k2 : Int) < (n : Int) := by omega
            have hkw : IntKind.i64.wrap (k : Int) = (k : Int) := wrap_i64 (by omega) (by omega)
            have hkw2 : IntKind.i64.wrap (k2 : Int) = (k2 : Int) := wrap_i64 (by omega) (by omega)
            have HK3 := Lib.hid hk3
            clear hkp hs hk3
            go_upto_region 11 with fail
            have hsd := HS.out
            obtain ⟨c1, c2, c3⟩ := hsd.cell k hx9
            obtain ⟨c4, c5, c6⟩ := hsd.cell k2 hy9
            obtain ⟨vx, hvx⟩ : ∃ v, v = l1[k] := ⟨_, rfl⟩
            obtain ⟨vy, hvy⟩ : ∃ v, v = l1[k2] := ⟨_, rfl⟩
            have hs1 := hsd.set k hx9 l1[k2]
            have hs2 := hs1.set k2 (by rw [List.length_set]; exact hy9) l1[k]
            have HS3 := Lib.hid (show Srt I M g c B base (swapL l1 k k2 hx9 hy9) _ from Srt.drew hs2)
            rw [← hvx, ← hvy] at HS3
            rw [← hvx] at c1
            rw [← hvy] at c4 hs1
            obtain ⟨d1, d2, d3⟩ := hs1.cell k2 (by rw [List.length_set]; exact hy9)
            clear hsd hs1 hs2 hvx hvy
            
            go_region
            go_wp2
            go_roundw
            case rel =>
              refine ⟨k2, by have := HK3.out; go_num, by have := HK3.out; omega, by have := HK3.out; omega, Lib.hid ⟨swapL l1 k k2 hx9 hy9, Kept.un (swapL_len.trans HKP.out.len) (swapL_rng HKP.out.rng) (fun hsr => ?_), HS3.out⟩⟩
              have h1 := HSO.out hsr
              omega
            case measure => have := HK3.out; simp [intOf]; omega
          · have hki2 : ¬ ((k : Int) < (i : Int) - 1) := by omega
            have HF := Lib.hid (show ∃ l', Kept base l l' ∧ Srt I M g c B base l' wr from ⟨l1, hkp, hs⟩)
            clear hkp hs HS HKP
            go_wp2
            go_returns
            exact ⟨rfl, HF.out⟩
  by_cases hBc : b - m = 1
  · have hA1 : ((m : Int) - (a : Int) == 1) = false := by rw [beq_eq_false_iff_ne]; omega
    have hB1 : ((b : Int) - (m : Int) == 1) = true := by rw [beq_iff_eq]; omega
    go_enter Try.func74, Try.ntmps74
    go_upto_region 15 with fail
    go_loopw [14, 15] (fun iv jv wr => ∃ i j : Nat, iv = .int .i64 i ∧ jv = .int .i64 j ∧ a ≤ i ∧ i ≤ j ∧ j ≤ m ∧ Hid ((SortK base l → j = m) ∧ Srt I M g c B base l wr)) (fun iv jv _ => (intOf jv).toNat - (intOf iv).toNat)
    case atStart => exact ⟨a, m, rfl, rfl, by omega, by omega, by omega, Lib.hid ⟨fun _ => rfl, HS.out⟩⟩
    case round =>
      obtain ⟨i, j, rfl, rfl, hi, hij, hj, hh⟩ := hrel
      clear HS
      obtain ⟨hso, hs⟩ := hh.out
      clear hh
      have HSO := Lib.hid hso
      have HS := Lib.hid hs
      clear hso hs
      by_cases hlt : i < j
      · skip
        obtain ⟨h, hh⟩ : ∃ h, h = (i + j) / 2 := ⟨_, rfl⟩
        have hh1 : (((i : Nat) : Int) + ((j : Nat) : Int)) / 2 = (h : Int) := by omega
        have hh2 : i ≤ h ∧ h < j := by omega
        obtain ⟨hh3, hh4⟩ := hh2
        have hhn : (h : Int) < (n : Int) := by omega
        have hhw : IntKind.i64.wrap (h : Int) = (h : Int) := wrap_i64 (by omega) (by omega)
        clear hh
        have hx9 : m < l.length := by rw [HN.out]; omega
        have hy9 : h < l.length := by rw [HN.out]; omega
        go_upto_region 17 with fail
        obtain ⟨c1, c2, c3⟩ := (Srt.drew HS.out).cell m hx9
        obtain ⟨c4, c5, c6⟩ := (Srt.drew HS.out).cell h hy9
        have hbs := (Srt.drew HS.out).base
        obtain ⟨vx, hvx⟩ : ∃ v, v = l[m] := ⟨_, rfl⟩
        obtain ⟨vy, hvy⟩ : ∃ v, v = l[h] := ⟨_, rfl⟩
        obtain ⟨d, hd⟩ : ∃ d, d = keyS base vx - keyS base vy := ⟨_, rfl⟩
        have HD := Lib.hid hd
        have HV := Lib.hid (show d = keyS base l[m] - keyS base l[h] by rw [hd, hvx, hvy])
        rw [← hvx] at c1
        rw [← hvy] at c4
        clear hvx hvy hd
        refine wp_region_held_drew (S := (fun w' => w'.cell? ⟨g, m, none⟩ = some (.int .u16 vx) ∧ w'.cell? ⟨g, h, none⟩ = some (.int .u16 vy))) (by kernel_rfl) (by (try dsimp only); exact ⟨c1, c4⟩) (fun hHeld => ?_)
        refine wpAnyH_take (i := 0) (oi := _) (v := ?_) rfl (by kernel_rfl) (by kernel_rfl) (by kernel_rfl) (fun _ _ _ h => h) (Or.inl ⟨by rfl, ?_⟩) (by assumption) ?_
        rotate_left
        · (intro w hSw; (try dsimp only at hSw); go_simp; try with_reducible rfl)
        try simp only [Act.put, List.getElem_toArray, List.getElem_cons_zero, List.getElem_cons_succ, List.setIfInBounds_toArray, List.set_cons_zero, List.set_cons_succ]
        refine wpAnyH_take (i := 1) (oi := _) (v := ?_) rfl (by kernel_rfl) (by kernel_rfl) (by kernel_rfl) (fun _ _ _ h => h) (Or.inl ⟨by rfl, ?_⟩) (by assumption) ?_
        rotate_left
        · (intro w hSw; (try dsimp only at hSw); go_simp; try with_reducible rfl)
        try simp only [Act.put, List.getElem_toArray, List.getElem_cons_zero, List.getElem_cons_succ, List.setIfInBounds_toArray, List.set_cons_zero, List.set_cons_succ]
        refine wpAnyH_take (i := 2) (oi := _) (v := ?_) rfl (by kernel_rfl) (by kernel_rfl) (by kernel_rfl) (fun _ _ _ h => h) (Or.inl ⟨by rfl, ?_⟩) (by assumption) ?_
        rotate_left
        · (intro w hSw; (try dsimp only at hSw); go_simp; try with_reducible rfl)
        try simp only [Act.put, List.getElem_toArray, List.getElem_cons_zero, List.getElem_cons_succ, List.setIfInBounds_toArray, List.set_cons_zero, List.set_cons_succ]
        refine wpAnyH_take (i := 3) (oi := _) (v := ?_) rfl (by kernel_rfl) (by kernel_rfl) (by kernel_rfl) (fun _ _ _ h => h) (Or.inl ⟨by rfl, ?_⟩) (by assumption) ?_
        rotate_left
        · (intro w hSw; (try dsimp only at hSw); go_simp; try with_reducible rfl)
        try simp only [Act.put, List.getElem_toArray, List.getElem_cons_zero, List.getElem_cons_succ, List.setIfInBounds_toArray, List.set_cons_zero, List.set_cons_succ]
        refine wpAnyH_take (i := 4) (oi := _) (v := ?_) rfl (by kernel_rfl) (by kernel_rfl) (by kernel_rfl) (fun _ _ _ h => h) (Or.inl ⟨by rfl, ?_⟩) (by assumption) ?_
        rotate_left
        · (intro w hSw; (try dsimp only at hSw); go_simp; try with_reducible rfl)
        try simp only [Act.put, List.getElem_toArray, List.getElem_cons_zero, List.getElem_cons_succ, List.setIfInBounds_toArray, List.set_cons_zero, List.set_cons_succ]
        refine wpAnyH_take (i := 5) (oi := _) (v := ?_) rfl (by kernel_rfl) (by kernel_rfl) (by kernel_rfl) (fun _ _ _ h => h) (Or.inl ⟨by rfl, ?_⟩) (by assumption) ?_
        rotate_left
        · (intro w hSw; (try dsimp only at hSw); go_simp; try with_reducible rfl)
        try simp only [Act.put, List.getElem_toArray, List.getElem_cons_zero, List.getElem_cons_succ, List.setIfInBounds_toArray, List.set_cons_zero, List.set_cons_succ]
        refine wpAnyH_take (i := 6) (oi := _) (v := ?_) rfl (by kernel_rfl) (by kernel_rfl) (by kernel_rfl) (fun _ _ _ h => h) (Or.inl ⟨by rfl, ?_⟩) (by assumption) ?_
        rotate_left
        · (intro w hSw; (try dsimp only at hSw); go_simp; try with_reducible rfl)
        try simp only [Act.put, List.getElem_toArray, List.getElem_cons_zero, List.getElem_cons_succ, List.setIfInBounds_toArray, List.set_cons_zero, List.set_cons_succ]
        refine wpAnyH_take (i := 7) (oi := _) (v := ?_) rfl (by kernel_rfl) (by kernel_rfl) (by kernel_rfl) (fun _ _ _ h => h) (Or.inl ⟨by rfl, ?_⟩) (by assumption) ?_
        rotate_left
        · (intro w hSw; (try dsimp only at hSw); go_simp; try with_reducible rfl)
        try simp only [Act.put, List.getElem_toArray, List.getElem_cons_zero, List.getElem_cons_succ, List.setIfInBounds_toArray, List.set_cons_zero, List.set_cons_succ]
        refine wpAnyH_take (i := 8) (oi := _) (v := ?_) rfl (by kernel_rfl) (by kernel_rfl) (by kernel_rfl) (fun _ _ _ h => h) (Or.inl ⟨by rfl, ?_⟩) (by assumption) ?_
        rotate_left
        · (intro w hSw; (try dsimp only at hSw); go_simp; try with_reducible rfl)
        try simp only [Act.put, List.getElem_toArray, List.getElem_cons_zero, List.getElem_cons_succ, List.setIfInBounds_toArray, List.set_cons_zero, List.set_cons_succ]
        refine wpAnyH_ready (rs := [9]) (by kernel_rfl) (by simp) ?_
        refine AllReadyH.cons (o := _) rfl (fun K hK => ?_) AllReadyH.nil
        go_simp
        go_at_call 65; refine (cmpD _ B base vx vy d HD.out hbs).mono ?_; rintro e w2 ⟨rfl, hw⟩; subst hw
        try clear hHeld
        refine hK.out _ _ (by (try dsimp only); exact ⟨c1, c4⟩) (fun hHeld => ?_)
        clear hK K
        try simp only [Act.put, List.getElem_toArray, List.getElem_cons_zero, List.getElem_cons_succ, List.setIfInBounds_toArray, List.set_cons_zero, List.set_cons_succ]
        refine wpAnyH_take (i := 10) (oi := _) (v := ?_) rfl (by kernel_rfl) (by kernel_rfl) (by kernel_rfl) (fun _ _ _ h => h) (Or.inl ⟨by rfl, ?_⟩) (by assumption) ?_
        rotate_left
        · (intro w hSw; (try dsimp only at hSw); go_simp; try with_reducible rfl)
        try simp only [Act.put, List.getElem_toArray, List.getElem_cons_zero, List.getElem_cons_succ, List.setIfInBounds_toArray, List.set_cons_zero, List.set_cons_succ]
        refine wpAnyH_take (i := 11) (oi := _) (v := ?_) rfl (by kernel_rfl) (by kernel_rfl) (by kernel_rfl) (fun _ _ _ h => h) (Or.inl ⟨by rfl, ?_⟩) (by assumption) ?_
        rotate_left
        · (intro w hSw; (try dsimp only at hSw); go_simp; try with_reducible rfl)
        try simp only [Act.put, List.getElem_toArray, List.getElem_cons_zero, List.getElem_cons_succ, List.setIfInBounds_toArray, List.set_cons_zero, List.set_cons_succ]
        refine wpAnyH_done (by kernel_rfl) ?_ _
        have HS1 := Lib.hid (Srt.drew HS.out)
        generalize World.drew wr = W1 at HS1 hbs c1 c2 c3 c4 c5 c6 hHeld ⊢
        clear hbs c1 c2 c3 c4 c5 c6 hHeld HD
        generalize hbb : (!decide (d < 0)) = bb
        rcases bb with _ | _
        · have hdn : d < 0 := by simpa using hbb
          clear hbb
          go_wp2
          go_roundw
          case rel =>
            refine ⟨i, h, rfl, rfl, hi, by omega, by omega, Lib.hid ⟨fun hs => ?_, HS1.out⟩⟩
            have h1 := sort_le hs hy9 hx9 (by omega)
            have h2 := HV.out
            omega
          case measure => simp [intOf]; omega
        · have hdp : 0 ≤ d := by simpa using hbb
          clear hbb
          go_wp2
          go_roundw
          case rel => exact ⟨h + 1, j, by go_num, rfl, by omega, by omega, hj, Lib.hid ⟨HSO.out, HS1.out⟩⟩
          case measure => simp [intOf]; omega
      · have hije : i = j := by omega
        subst hije
        go_upto_region 21 with fail
        go_loopw [17] (fun kv wr => ∃ k : Nat, kv = .int .i64 k ∧ i ≤ k ∧ k ≤ m ∧ Hid (∃ l1, Kept base l l1 ∧ Srt I M g c B base l1 wr)) (fun kv _ => (intOf kv).toNat)
        case atStart => exact ⟨m, rfl, by omega, by omega, Lib.hid ⟨l, .refl HR.out, HS.out⟩⟩
        case round =>
          obtain ⟨k, rfl, hk1, hk2, hh⟩ := hrel
          clear HS
          obtain ⟨l1, hkp, hs⟩ := hh.out
          clear hh
          have HKP := Lib.hid hkp
          have HS := Lib.hid hs
          by_cases hki : i < k
          · skip
            have hki2 : (i : Int) < (k : Int) := by omega
            obtain ⟨k2, hk3⟩ : ∃ k2, k2 + 1 = k := ⟨k - 1, by omega⟩
            have hk4 : (k : Int) - 1 = (k2 : Int) := by omega
            have hx9 : k < l1.length := by rw [hkp.len, HN.out]; omega
            have hy9 : k2 < l1.length := by rw [hkp.len, HN.out]; omega
            have hkn : (k : Int) < (n : Int) := by omega
            have hkn2 : (k2 : Int) < (n : Int) := by omega
            have hkw : IntKind.i64.wrap (k : Int) = (k : Int) := wrap_i64 (by omega) (by omega)
            have hkw2 : IntKind.i64.wrap (k2 : Int) = (k2 : Int) := wrap_i64 (by omega) (by omega)
            have HK3 := Lib.hid hk3
            clear hkp hs hk3
            go_upto_region 23 with fail
            have hsd := HS.out
            obtain ⟨c1, c2, c3⟩ := hsd.cell k hx9
            obtain ⟨c4, c5, c6⟩ := hsd.cell k2 hy9
            obtain ⟨vx, hvx⟩ : ∃ v, v = l1[k] := ⟨_, rfl⟩
            obtain ⟨vy, hvy⟩ : ∃ v, v = l1[k2] := ⟨_, rfl⟩
            have hs1 := hsd.set k hx9 l1[k2]
            have hs2 := hs1.set k2 (by rw [List.length_set]; exact hy9) l1[k]
            have HS3 := Lib.hid (show Srt I M g c B base (swapL l1 k k2 hx9 hy9) _ from Srt.drew hs2)
            rw [← hvx, ← hvy] at HS3
            rw [← hvx] at c1
            rw [← hvy] at c4 hs1
            obtain ⟨d1, d2, d3⟩ := hs1.cell k2 (by rw [List.length_set]; exact hy9)
            clear hsd hs1 hs2 hvx hvy
            
            go_region
            go_wp2
            go_roundw
            case rel =>
              refine ⟨k2, by have := HK3.out; go_num, by have := HK3.out; omega, by have := HK3.out; omega, Lib.hid ⟨swapL l1 k k2 hx9 hy9, Kept.un (swapL_len.trans HKP.out.len) (swapL_rng HKP.out.rng) (fun hsr => ?_), HS3.out⟩⟩
              have h1 := HSO.out hsr
              omega
            case measure => have := HK3.out; simp [intOf]; omega
          · have hki2 : ¬ ((i : Int) < (k : Int)) := by omega
            have HF := Lib.hid (show ∃ l', Kept base l l' ∧ Srt I M g c B base l' wr from ⟨l1, hkp, hs⟩)
            clear hkp hs HS HKP
            go_wp2
            go_returns
            exact ⟨rfl, HF.out⟩
  have hA1 : ((m : Int) - (a : Int) == 1) = false := by rw [beq_eq_false_iff_ne]; omega
  have hB1 : ((b : Int) - (m : Int) == 1) = false := by rw [beq_eq_false_iff_ne]; omega
  have ham2 : a + 2 ≤ m := by omega
  have hmb2 : m + 2 ≤ b := by omega
  clear hA hBc
  obtain ⟨mid, hmid⟩ : ∃ mid, mid = (a + b) / 2 := ⟨_, rfl⟩
  have hmd1 : ((a : Int) + (b : Int)) / 2 = (mid : Int) := by omega
  have hmd2 : a + b ≤ 2 * mid + 1 := by omega
  have hmd3 : 2 * mid ≤ a + b := by omega
  have hmd4 : a < mid := by omega
  have hmd5 : mid < b := by omega
  obtain ⟨N1, hN1⟩ : ∃ N1, N1 = mid + m := ⟨_, rfl⟩
  have hN2 : (mid : Int) + (m : Int) = (N1 : Int) := by omega
  obtain ⟨p, hp⟩ : ∃ p, p + 1 = N1 := ⟨N1 - 1, by omega⟩
  have hp2 : (N1 : Int) - 1 = (p : Int) := by omega
  have HNN := Lib.hid (And.intro hN1 hp)
  clear hmid hN1 hp
  by_cases hmm : mid < m
  · skip
    obtain ⟨s0, hs0⟩ : ∃ s0, s0 = N1 - b := ⟨_, rfl⟩
    have hs1 : (N1 : Int) - (b : Int) = (s0 : Int) := by have := HNN.out; omega
    have hs2 : a ≤ s0 := by have := HNN.out; omega
    have hs3 : s0 ≤ mid := by have := HNN.out; omega
    have HS0 := Lib.hid hs0
    have hmm2 : (mid : Int) < (m : Int) := by omega
    clear hs0
    go_enter Try.func74, Try.ntmps74
    go_upto_region 33 with fail
    go_loopw [20, 21] (fun sv rv wr => ∃ s r : Nat, sv = .int .i64 s ∧ rv = .int .i64 r ∧ s0 ≤ s ∧ s ≤ r ∧ r ≤ mid ∧ Hid ((SortK base l → r = mid) ∧ Srt I M g c B base l wr)) (fun sv rv _ => (intOf rv).toNat - (intOf sv).toNat)
    case atStart => exact ⟨s0, mid, by first | rfl | go_num, rfl, by omega, by omega, by omega, Lib.hid ⟨fun _ => rfl, HS.out⟩⟩
    case round =>
      obtain ⟨s, r, rfl, rfl, hs5, hsr, hr5, hh⟩ := hrel
      clear HS
      obtain ⟨hso, hs⟩ := hh.out
      clear hh
      have HSO := Lib.hid hso
      have HS := Lib.hid hs
      clear hso hs
      by_cases hlt : s < r
      · skip
        obtain ⟨h, hh⟩ : ∃ h, h = (s + r) / 2 := ⟨_, rfl⟩
        have hh1 : (((s : Nat) : Int) + ((r : Nat) : Int)) / 2 = (h : Int) := by omega
        have hh2 : s ≤ h ∧ h < r := by omega
        obtain ⟨hh3, hh4⟩ := hh2
        have hhn : (h : Int) < (n : Int) := by omega
        have hhw : IntKind.i64.wrap (h : Int) = (h : Int) := wrap_i64 (by omega) (by omega)
        clear hh
        obtain ⟨x, hx⟩ : ∃ x, x = p - h := ⟨_, rfl⟩
        have hxb : h < x ∧ x < b := by have := HNN.out; have := HS0.out; omega
        obtain ⟨hxb1, hxb2⟩ := hxb
        have hxi : (p : Int) - (h : Int) = (x : Int) := by omega
        have hxn : (x : Int) < (n : Int) := by omega
        have hxw : IntKind.i64.wrap (x : Int) = (x : Int) := wrap_i64 (by omega) (by omega)
        have hx9 : x < l.length := by rw [HN.out]; omega
        have hy9 : h < l.length := by rw [HN.out]; omega
        clear hx
        go_upto_region 35 with fail
        obtain ⟨c1, c2, c3⟩ := (Srt.drew HS.out).cell x hx9
        obtain ⟨c4, c5, c6⟩ := (Srt.drew HS.out).cell h hy9
        have hbs := (Srt.drew HS.out).base
        obtain ⟨vx, hvx⟩ : ∃ v, v = l[x] := ⟨_, rfl⟩
        obtain ⟨vy, hvy⟩ : ∃ v, v = l[h] := ⟨_, rfl⟩
        obtain ⟨d, hd⟩ : ∃ d, d = keyS base vx - keyS base vy := ⟨_, rfl⟩
        have HD := Lib.hid hd
        have HV := Lib.hid (show d = keyS base l[x] - keyS base l[h] by rw [hd, hvx, hvy])
        rw [← hvx] at c1
        rw [← hvy] at c4
        clear hvx hvy hd
        refine wp_region_held_drew (S := (fun w' => w'.cell? ⟨g, x, none⟩ = some (.int .u16 vx) ∧ w'.cell? ⟨g, h, none⟩ = some (.int .u16 vy))) (by kernel_rfl) (by (try dsimp only); exact ⟨c1, c4⟩) (fun hHeld => ?_)
        refine wpAnyH_take (i := 0) (oi := _) (v := ?_) rfl (by kernel_rfl) (by kernel_rfl) (by kernel_rfl) (fun _ _ _ h => h) (Or.inl ⟨by rfl, ?_⟩) (by assumption) ?_
        rotate_left
        · (intro w hSw; (try dsimp only at hSw); go_simp; try with_reducible rfl)
        try simp only [Act.put, List.getElem_toArray, List.getElem_cons_zero, List.getElem_cons_succ, List.setIfInBounds_toArray, List.set_cons_zero, List.set_cons_succ]
        refine wpAnyH_take (i := 1) (oi := _) (v := ?_) rfl (by kernel_rfl) (by kernel_rfl) (by kernel_rfl) (fun _ _ _ h => h) (Or.inl ⟨by rfl, ?_⟩) (by assumption) ?_
        rotate_left
        · (intro w hSw; (try dsimp only at hSw); go_simp; try with_reducible rfl)
        try simp only [Act.put, List.getElem_toArray, List.getElem_cons_zero, List.getElem_cons_succ, List.setIfInBounds_toArray, List.set_cons_zero, List.set_cons_succ]
        refine wpAnyH_take (i := 2) (oi := _) (v := ?_) rfl (by kernel_rfl) (by kernel_rfl) (by kernel_rfl) (fun _ _ _ h => h) (Or.inl ⟨by rfl, ?_⟩) (by assumption) ?_
        rotate_left
        · (intro w hSw; (try dsimp only at hSw); go_simp; try with_reducible rfl)
        try simp only [Act.put, List.getElem_toArray, List.getElem_cons_zero, List.getElem_cons_succ, List.setIfInBounds_toArray, List.set_cons_zero, List.set_cons_succ]
        refine wpAnyH_take (i := 3) (oi := _) (v := ?_) rfl (by kernel_rfl) (by kernel_rfl) (by kernel_rfl) (fun _ _ _ h => h) (Or.inl ⟨by rfl, ?_⟩) (by assumption) ?_
        rotate_left
        · (intro w hSw; (try dsimp only at hSw); go_simp; try with_reducible rfl)
        try simp only [Act.put, List.getElem_toArray, List.getElem_cons_zero, List.getElem_cons_succ, List.setIfInBounds_toArray, List.set_cons_zero, List.set_cons_succ]
        refine wpAnyH_take (i := 4) (oi := _) (v := ?_) rfl (by kernel_rfl) (by kernel_rfl) (by kernel_rfl) (fun _ _ _ h => h) (Or.inl ⟨by rfl, ?_⟩) (by assumption) ?_
        rotate_left
        · (intro w hSw; (try dsimp only at hSw); go_simp; try with_reducible rfl)
        try simp only [Act.put, List.getElem_toArray, List.getElem_cons_zero, List.getElem_cons_succ, List.setIfInBounds_toArray, List.set_cons_zero, List.set_cons_succ]
        refine wpAnyH_take (i := 5) (oi := _) (v := ?_) rfl (by kernel_rfl) (by kernel_rfl) (by kernel_rfl) (fun _ _ _ h => h) (Or.inl ⟨by rfl, ?_⟩) (by assumption) ?_
        rotate_left
        · (intro w hSw; (try dsimp only at hSw); go_simp; try with_reducible rfl)
        try simp only [Act.put, List.getElem_toArray, List.getElem_cons_zero, List.getElem_cons_succ, List.setIfInBounds_toArray, List.set_cons_zero, List.set_cons_succ]
        refine wpAnyH_take (i := 6) (oi := _) (v := ?_) rfl (by kernel_rfl) (by kernel_rfl) (by kernel_rfl) (fun _ _ _ h => h) (Or.inl ⟨by rfl, ?_⟩) (by assumption) ?_
        rotate_left
        · (intro w hSw; (try dsimp only at hSw); go_simp; try with_reducible rfl)
        try simp only [Act.put, List.getElem_toArray, List.getElem_cons_zero, List.getElem_cons_succ, List.setIfInBounds_toArray, List.set_cons_zero, List.set_cons_succ]
        refine wpAnyH_take (i := 7) (oi := _) (v := ?_) rfl (by kernel_rfl) (by kernel_rfl) (by kernel_rfl) (fun _ _ _ h => h) (Or.inl ⟨by rfl, ?_⟩) (by assumption) ?_
        rotate_left
        · (intro w hSw; (try dsimp only at hSw); go_simp; try with_reducible rfl)
        try simp only [Act.put, List.getElem_toArray, List.getElem_cons_zero, List.getElem_cons_succ, List.setIfInBounds_toArray, List.set_cons_zero, List.set_cons_succ]
        refine wpAnyH_take (i := 8) (oi := _) (v := ?_) rfl (by kernel_rfl) (by kernel_rfl) (by kernel_rfl) (fun _ _ _ h => h) (Or.inl ⟨by rfl, ?_⟩) (by assumption) ?_
        rotate_left
        · (intro w hSw; (try dsimp only at hSw); go_simp; try with_reducible rfl)
        try simp only [Act.put, List.getElem_toArray, List.getElem_cons_zero, List.getElem_cons_succ, List.setIfInBounds_toArray, List.set_cons_zero, List.set_cons_succ]
        refine wpAnyH_take (i := 9) (oi := _) (v := ?_) rfl (by kernel_rfl) (by kernel_rfl) (by kernel_rfl) (fun _ _ _ h => h) (Or.inl ⟨by rfl, ?_⟩) (by assumption) ?_
        rotate_left
        · (intro w hSw; (try dsimp only at hSw); go_simp; try with_reducible rfl)
        try simp only [Act.put, List.getElem_toArray, List.getElem_cons_zero, List.getElem_cons_succ, List.setIfInBounds_toArray, List.set_cons_zero, List.set_cons_succ]
        refine wpAnyH_take (i := 10) (oi := _) (v := ?_) rfl (by kernel_rfl) (by kernel_rfl) (by kernel_rfl) (fun _ _ _ h => h) (Or.inl ⟨by rfl, ?_⟩) (by assumption) ?_
        rotate_left
        · (intro w hSw; (try dsimp only at hSw); go_simp; try with_reducible rfl)
        try simp only [Act.put, List.getElem_toArray, List.getElem_cons_zero, List.getElem_cons_succ, List.setIfInBounds_toArray, List.set_cons_zero, List.set_cons_succ]
        refine wpAnyH_ready (rs := [11]) (by kernel_rfl) (by simp) ?_
        refine AllReadyH.cons (o := _) rfl (fun K hK => ?_) AllReadyH.nil
        go_simp
        go_at_call 65; refine (cmpD _ B base vx vy d HD.out hbs).mono ?_; rintro e w2 ⟨rfl, hw⟩; subst hw
        try clear hHeld
        refine hK.out _ _ (by (try dsimp only); exact ⟨c1, c4⟩) (fun hHeld => ?_)
        clear hK K
        try simp only [Act.put, List.getElem_toArray, List.getElem_cons_zero, List.getElem_cons_succ, List.setIfInBounds_toArray, List.set_cons_zero, List.set_cons_succ]
        refine wpAnyH_take (i := 12) (oi := _) (v := ?_) rfl (by kernel_rfl) (by kernel_rfl) (by kernel_rfl) (fun _ _ _ h => h) (Or.inl ⟨by rfl, ?_⟩) (by assumption) ?_
        rotate_left
        · (intro w hSw; (try dsimp only at hSw); go_simp; try with_reducible rfl)
        try simp only [Act.put, List.getElem_toArray, List.getElem_cons_zero, List.getElem_cons_succ, List.setIfInBounds_toArray, List.set_cons_zero, List.set_cons_succ]
        refine wpAnyH_take (i := 13) (oi := _) (v := ?_) rfl (by kernel_rfl) (by kernel_rfl) (by kernel_rfl) (fun _ _ _ h => h) (Or.inl ⟨by rfl, ?_⟩) (by assumption) ?_
        rotate_left
        · (intro w hSw; (try dsimp only at hSw); go_simp; try with_reducible rfl)
        try simp only [Act.put, List.getElem_toArray, List.getElem_cons_zero, List.getElem_cons_succ, List.setIfInBounds_toArray, List.set_cons_zero, List.set_cons_succ]
        refine wpAnyH_done (by kernel_rfl) ?_ _
        have HS1 := Lib.hid (Srt.drew HS.out)
        generalize World.drew wr = W1 at HS1 hbs c1 c2 c3 c4 c5 c6 hHeld ⊢
        clear hbs c1 c2 c3 c4 c5 c6 hHeld HD
        generalize hbb : (!decide (d < 0)) = bb
        rcases bb with _ | _
        · have hdn : d < 0 := by simpa using hbb
          clear hbb
          go_wp2
          go_roundw
          case rel =>
            refine ⟨s, h, rfl, rfl, hs5, by omega, by omega, Lib.hid ⟨fun hs => ?_, HS1.out⟩⟩
            have h1 := sort_le hs hy9 hx9 (by omega)
            have h2 := HV.out
            omega
          case measure => simp [intOf]; omega
        · have hdp : 0 ≤ d := by simpa using hbb
          clear hbb
          go_wp2
          go_roundw
          case rel => exact ⟨h + 1, r, by go_num, rfl, by omega, by omega, hr5, Lib.hid ⟨HSO.out, HS1.out⟩⟩
          case measure => simp [intOf]; omega
      · have hse : s = r := by omega
        subst hse
        obtain ⟨e, he⟩ : ∃ e, e = N1 - s := ⟨_, rfl⟩
        have heb : m ≤ e ∧ e ≤ b ∧ mid ≤ e := by have := HNN.out; have := HS0.out; omega
        obtain ⟨he1, he2, he3⟩ := heb
        have hei : (N1 : Int) - (s : Int) = (e : Int) := by have := HNN.out; omega
        have HE := Lib.hid he
        clear he
        go_upto_region 39 with fail
        have HK0 := Lib.hid (Kept.refl (base := base) HR.out)
        by_cases hrt : m < e
        · skip
          have hr3 : (s : Int) < (m : Int) := by omega
          have hr4 : (m : Int) < (e : Int) := by have := HE.out; have := HNN.out; omega
          have hrm : m < e := by omega
          have HC := Lib.hid (rotateC I M _ g c B n base l s m e HN.out (by omega) hrm (by omega) hn1 HR.out HS.out)
          clear HS
          go_wp2_with fail
          go_at_call 75
          refine HC.out.mono ?_
          clear HC
          rintro e7 w7 ⟨rfl, l7, ⟨hl7, hr7⟩, hs7⟩
          have HK7 := Lib.hid (Kept.un (base := base) (l := l) (l' := l7) (by rw [hl7, HN.out]) hr7 (fun hs => by
            have h1 := HSO.out hs
            have h2 := HE.out
            have h3 := HNN.out
            omega))
          have HS := Lib.hid hs7
          clear hl7 hr7 hs7
          by_cases hb1 : a < s
          · by_cases hb2 : s < mid
            · skip
              have hb3 : (a : Int) < (s : Int) := by omega
              have hb4 : (s : Int) < (mid : Int) := by omega
              have HC := Lib.hid (IH.out l7 _ a s mid (by omega) (by rw [HK7.out.len, HN.out]) hb1 hb2 (by omega) HK7.out.rng HS.out)
              clear HS
              go_wp2_with fail
              go_at_call 74
              refine HC.out.mono ?_
              clear HC
              rintro e8 w8 ⟨rfl, l8, hk8, hs8⟩
              have HK8 := Lib.hid (HK7.out.trans hk8)
              have HS := Lib.hid hs8
              clear hk8 hs8
              by_cases hc1 : mid < e
              · by_cases hc2 : e < b
                · skip
                  have hc3 : (mid : Int) < (e : Int) := by omega
                  have hc4 : (e : Int) < (b : Int) := by omega
                  have HC := Lib.hid (IH.out l8 _ mid e b (by omega) (by rw [HK8.out.len, HN.out]) hc1 hc2 hb HK8.out.rng HS.out)
                  clear HS
                  go_wp2_with fail
                  go_at_call 74
                  refine HC.out.mono ?_
                  clear HC
                  rintro e9 w9 ⟨rfl, l9, hk9, hs9⟩
                  have HF := Lib.hid (show ∃ l', Kept base l l' ∧ Srt I M g c B base l' w9 from ⟨l9, HK8.out.trans hk9, hs9⟩)
                  clear hk9 hs9
                  go_wp2
                  go_returns
                  exact ⟨rfl, HF.out⟩
                · skip
                  have hc3 : (mid : Int) < (e : Int) := by omega
                  have hc4 : ¬ ((e : Int) < (b : Int)) := by omega
                  have HF := Lib.hid (show ∃ l', Kept base l l' ∧ Srt I M g c B base l' _ from ⟨l8, HK8.out, HS.out⟩)
                  clear HS
                  go_wp2
                  go_returns
                  exact ⟨rfl, HF.out⟩
              · skip
                have hc3 : ¬ ((mid : Int) < (e : Int)) := by omega
                have HF := Lib.hid (show ∃ l', Kept base l l' ∧ Srt I M g c B base l' _ from ⟨l8, HK8.out, HS.out⟩)
                clear HS
                go_wp2
                go_returns
                exact ⟨rfl, HF.out⟩
            · skip
              have hb3 : (a : Int) < (s : Int) := by omega
              have hb4 : ¬ ((s : Int) < (mid : Int)) := by omega
              by_cases hc1 : mid < e
              · by_cases hc2 : e < b
                · skip
                  have hc3 : (mid : Int) < (e : Int) := by omega
                  have hc4 : (e : Int) < (b : Int) := by omega
                  have HC := Lib.hid (IH.out l7 _ mid e b (by omega) (by rw [HK7.out.len, HN.out]) hc1 hc2 hb HK7.out.rng HS.out)
                  clear HS
                  go_wp2_with fail
                  go_at_call 74
                  refine HC.out.mono ?_
                  clear HC
                  rintro e9 w9 ⟨rfl, l9, hk9, hs9⟩
                  have HF := Lib.hid (show ∃ l', Kept base l l' ∧ Srt I M g c B base l' w9 from ⟨l9, HK7.out.trans hk9, hs9⟩)
                  clear hk9 hs9
                  go_wp2
                  go_returns
                  exact ⟨rfl, HF.out⟩
                · skip
                  have hc3 : (mid : Int) < (e : Int) := by omega
                  have hc4 : ¬ ((e : Int) < (b : Int)) := by omega
                  have HF := Lib.hid (show ∃ l', Kept base l l' ∧ Srt I M g c B base l' _ from ⟨l7, HK7.out, HS.out⟩)
                  clear HS
                  go_wp2
                  go_returns
                  exact ⟨rfl, HF.out⟩
              · skip
                have hc3 : ¬ ((mid : Int) < (e : Int)) := by omega
                have HF := Lib.hid (show ∃ l', Kept base l l' ∧ Srt I M g c B base l' _ from ⟨l7, HK7.out, HS.out⟩)
                clear HS
                go_wp2
                go_returns
                exact ⟨rfl, HF.out⟩
          · skip
            have hb3 : ¬ ((a : Int) < (s : Int)) := by omega
            by_cases hc1 : mid < e
            · by_cases hc2 : e < b
              · skip
                have hc3 : (mid : Int) < (e : Int) := by omega
                have hc4 : (e : Int) < (b : Int) := by omega
                have HC := Lib.hid (IH.out l7 _ mid e b (by omega) (by rw [HK7.out.len, HN.out]) hc1 hc2 hb HK7.out.rng HS.out)
                clear HS
                go_wp2_with fail
                go_at_call 74
                refine HC.out.mono ?_
                clear HC
                rintro e9 w9 ⟨rfl, l9, hk9, hs9⟩
                have HF := Lib.hid (show ∃ l', Kept base l l' ∧ Srt I M g c B base l' w9 from ⟨l9, HK7.out.trans hk9, hs9⟩)
                clear hk9 hs9
                go_wp2
                go_returns
                exact ⟨rfl, HF.out⟩
              · skip
                have hc3 : (mid : Int) < (e : Int) := by omega
                have hc4 : ¬ ((e : Int) < (b : Int)) := by omega
                have HF := Lib.hid (show ∃ l', Kept base l l' ∧ Srt I M g c B base l' _ from ⟨l7, HK7.out, HS.out⟩)
                clear HS
                go_wp2
                go_returns
                exact ⟨rfl, HF.out⟩
            · skip
              have hc3 : ¬ ((mid : Int) < (e : Int)) := by omega
              have HF := Lib.hid (show ∃ l', Kept base l l' ∧ Srt I M g c B base l' _ from ⟨l7, HK7.out, HS.out⟩)
              clear HS
              go_wp2
              go_returns
              exact ⟨rfl, HF.out⟩
        · skip
          have hr3 : (s : Int) < (m : Int) := by omega
          have hr4 : ¬ ((m : Int) < (e : Int)) := by omega
          by_cases hb1 : a < s
          · by_cases hb2 : s < mid
            · skip
              have hb3 : (a : Int) < (s : Int) := by omega
              have hb4 : (s : Int) < (mid : Int) := by omega
              have HC := Lib.hid (IH.out l _ a s mid (by omega) (by rw [HK0.out.len, HN.out]) hb1 hb2 (by omega) HK0.out.rng HS.out)
              clear HS
              go_wp2_with fail
              go_at_call 74
              refine HC.out.mono ?_
              clear HC
              rintro e8 w8 ⟨rfl, l8, hk8, hs8⟩
              have HK8 := Lib.hid (HK0.out.trans hk8)
              have HS := Lib.hid hs8
              clear hk8 hs8
              by_cases hc1 : mid < e
              · by_cases hc2 : e < b
                · skip
                  have hc3 : (mid : Int) < (e : Int) := by omega
                  have hc4 : (e : Int) < (b : Int) := by omega
                  have HC := Lib.hid (IH.out l8 _ mid e b (by omega) (by rw [HK8.out.len, HN.out]) hc1 hc2 hb HK8.out.rng HS.out)
                  clear HS
                  go_wp2_with fail
                  go_at_call 74
                  refine HC.out.mono ?_
                  clear HC
                  rintro e9 w9 ⟨rfl, l9, hk9, hs9⟩
                  have HF := Lib.hid (show ∃ l', Kept base l l' ∧ Srt I M g c B base l' w9 from ⟨l9, HK8.out.trans hk9, hs9⟩)
                  clear hk9 hs9
                  go_wp2
                  go_returns
                  exact ⟨rfl, HF.out⟩
                · skip
                  have hc3 : (mid : Int) < (e : Int) := by omega
                  have hc4 : ¬ ((e : Int) < (b : Int)) := by omega
                  have HF := Lib.hid (show ∃ l', Kept base l l' ∧ Srt I M g c B base l' _ from ⟨l8, HK8.out, HS.out⟩)
                  clear HS
                  go_wp2
                  go_returns
                  exact ⟨rfl, HF.out⟩
              · skip
                have hc3 : ¬ ((mid : Int) < (e : Int)) := by omega
                have HF := Lib.hid (show ∃ l', Kept base l l' ∧ Srt I M g c B base l' _ from ⟨l8, HK8.out, HS.out⟩)
                clear HS
                go_wp2
                go_returns
                exact ⟨rfl, HF.out⟩
            · skip
              have hb3 : (a : Int) < (s : Int) := by omega
              have hb4 : ¬ ((s : Int) < (mid : Int)) := by omega
              by_cases hc1 : mid < e
              · by_cases hc2 : e < b
                · skip
                  have hc3 : (mid : Int) < (e : Int) := by omega
                  have hc4 : (e : Int) < (b : Int) := by omega
                  have HC := Lib.hid (IH.out l _ mid e b (by omega) (by rw [HK0.out.len, HN.out]) hc1 hc2 hb HK0.out.rng HS.out)
                  clear HS
                  go_wp2_with fail
                  go_at_call 74
                  refine HC.out.mono ?_
                  clear HC
                  rintro e9 w9 ⟨rfl, l9, hk9, hs9⟩
                  have HF := Lib.hid (show ∃ l', Kept base l l' ∧ Srt I M g c B base l' w9 from ⟨l9, HK0.out.trans hk9, hs9⟩)
                  clear hk9 hs9
                  go_wp2
                  go_returns
                  exact ⟨rfl, HF.out⟩
                · skip
                  have hc3 : (mid : Int) < (e : Int) := by omega
                  have hc4 : ¬ ((e : Int) < (b : Int)) := by omega
                  have HF := Lib.hid (show ∃ l', Kept base l l' ∧ Srt I M g c B base l' _ from ⟨l, HK0.out, HS.out⟩)
                  clear HS
                  go_wp2
                  go_returns
                  exact ⟨rfl, HF.out⟩
              · skip
                have hc3 : ¬ ((mid : Int) < (e : Int)) := by omega
                have HF := Lib.hid (show ∃ l', Kept base l l' ∧ Srt I M g c B base l' _ from ⟨l, HK0.out, HS.out⟩)
                clear HS
                go_wp2
                go_returns
                exact ⟨rfl, HF.out⟩
          · skip
            have hb3 : ¬ ((a : Int) < (s : Int)) := by omega
            by_cases hc1 : mid < e
            · by_cases hc2 : e < b
              · skip
                have hc3 : (mid : Int) < (e : Int) := by omega
                have hc4 : (e : Int) < (b : Int) := by omega
                have HC := Lib.hid (IH.out l _ mid e b (by omega) (by rw [HK0.out.len, HN.out]) hc1 hc2 hb HK0.out.rng HS.out)
                clear HS
                go_wp2_with fail
                go_at_call 74
                refine HC.out.mono ?_
                clear HC
                rintro e9 w9 ⟨rfl, l9, hk9, hs9⟩
                have HF := Lib.hid (show ∃ l', Kept base l l' ∧ Srt I M g c B base l' w9 from ⟨l9, HK0.out.trans hk9, hs9⟩)
                clear hk9 hs9
                go_wp2
                go_returns
                exact ⟨rfl, HF.out⟩
              · skip
                have hc3 : (mid : Int) < (e : Int) := by omega
                have hc4 : ¬ ((e : Int) < (b : Int)) := by omega
                have HF := Lib.hid (show ∃ l', Kept base l l' ∧ Srt I M g c B base l' _ from ⟨l, HK0.out, HS.out⟩)
                clear HS
                go_wp2
                go_returns
                exact ⟨rfl, HF.out⟩
            · skip
              have hc3 : ¬ ((mid : Int) < (e : Int)) := by omega
              have HF := Lib.hid (show ∃ l', Kept base l l' ∧ Srt I M g c B base l' _ from ⟨l, HK0.out, HS.out⟩)
              clear HS
              go_wp2
              go_returns
              exact ⟨rfl, HF.out⟩
  · skip
    have hmm2 : (m : Int) ≤ (mid : Int) := by omega
    go_enter Try.func74, Try.ntmps74
    go_upto_region 33 with fail
    go_loopw [20, 21] (fun sv rv wr => ∃ s r : Nat, sv = .int .i64 s ∧ rv = .int .i64 r ∧ a ≤ s ∧ s ≤ r ∧ r ≤ m ∧ Hid ((SortK base l → r = m) ∧ Srt I M g c B base l wr)) (fun sv rv _ => (intOf rv).toNat - (intOf sv).toNat)
    case atStart => exact ⟨a, m, by first | rfl | go_num, rfl, by omega, by omega, by omega, Lib.hid ⟨fun _ => rfl, HS.out⟩⟩
    case round =>
      obtain ⟨s, r, rfl, rfl, hs5, hsr, hr5, hh⟩ := hrel
      clear HS
      obtain ⟨hso, hs⟩ := hh.out
      clear hh
      have HSO := Lib.hid hso
      have HS := Lib.hid hs
      clear hso hs
      by_cases hlt : s < r
      · skip
        obtain ⟨h, hh⟩ : ∃ h, h = (s + r) / 2 := ⟨_, rfl⟩
        have hh1 : (((s : Nat) : Int) + ((r : Nat) : Int)) / 2 = (h : Int) := by omega
        have hh2 : s ≤ h ∧ h < r := by omega
        obtain ⟨hh3, hh4⟩ := hh2
        have hhn : (h : Int) < (n : Int) := by omega
        have hhw : IntKind.i64.wrap (h : Int) = (h : Int) := wrap_i64 (by omega) (by omega)
        clear hh
        obtain ⟨x, hx⟩ : ∃ x, x = p - h := ⟨_, rfl⟩
        have hxb : h < x ∧ x < b := by have := HNN.out; omega
        obtain ⟨hxb1, hxb2⟩ := hxb
        have hxi : (p : Int) - (h : Int) = (x : Int) := by omega
        have hxn : (x : Int) < (n : Int) := by omega
        have hxw : IntKind.i64.wrap (x : Int) = (x : Int) := wrap_i64 (by omega) (by omega)
        have hx9 : x < l.length := by rw [HN.out]; omega
        have hy9 : h < l.length := by rw [HN.out]; omega
        clear hx
        go_upto_region 35 with fail
        obtain ⟨c1, c2, c3⟩ := (Srt.drew HS.out).cell x hx9
        obtain ⟨c4, c5, c6⟩ := (Srt.drew HS.out).cell h hy9
        have hbs := (Srt.drew HS.out).base
        obtain ⟨vx, hvx⟩ : ∃ v, v = l[x] := ⟨_, rfl⟩
        obtain ⟨vy, hvy⟩ : ∃ v, v = l[h] := ⟨_, rfl⟩
        obtain ⟨d, hd⟩ : ∃ d, d = keyS base vx - keyS base vy := ⟨_, rfl⟩
        have HD := Lib.hid hd
        have HV := Lib.hid (show d = keyS base l[x] - keyS base l[h] by rw [hd, hvx, hvy])
        rw [← hvx] at c1
        rw [← hvy] at c4
        clear hvx hvy hd
        refine wp_region_held_drew (S := (fun w' => w'.cell? ⟨g, x, none⟩ = some (.int .u16 vx) ∧ w'.cell? ⟨g, h, none⟩ = some (.int .u16 vy))) (by kernel_rfl) (by (try dsimp only); exact ⟨c1, c4⟩) (fun hHeld => ?_)
        refine wpAnyH_take (i := 0) (oi := _) (v := ?_) rfl (by kernel_rfl) (by kernel_rfl) (by kernel_rfl) (fun _ _ _ h => h) (Or.inl ⟨by rfl, ?_⟩) (by assumption) ?_
        rotate_left
        · (intro w hSw; (try dsimp only at hSw); go_simp; try with_reducible rfl)
        try simp only [Act.put, List.getElem_toArray, List.getElem_cons_zero, List.getElem_cons_succ, List.setIfInBounds_toArray, List.set_cons_zero, List.set_cons_succ]
        refine wpAnyH_take (i := 1) (oi := _) (v := ?_) rfl (by kernel_rfl) (by kernel_rfl) (by kernel_rfl) (fun _ _ _ h => h) (Or.inl ⟨by rfl, ?_⟩) (by assumption) ?_
        rotate_left
        · (intro w hSw; (try dsimp only at hSw); go_simp; try with_reducible rfl)
        try simp only [Act.put, List.getElem_toArray, List.getElem_cons_zero, List.getElem_cons_succ, List.setIfInBounds_toArray, List.set_cons_zero, List.set_cons_succ]
        refine wpAnyH_take (i := 2) (oi := _) (v := ?_) rfl (by kernel_rfl) (by kernel_rfl) (by kernel_rfl) (fun _ _ _ h => h) (Or.inl ⟨by rfl, ?_⟩) (by assumption) ?_
        rotate_left
        · (intro w hSw; (try dsimp only at hSw); go_simp; try with_reducible rfl)
        try simp only [Act.put, List.getElem_toArray, List.getElem_cons_zero, List.getElem_cons_succ, List.setIfInBounds_toArray, List.set_cons_zero, List.set_cons_succ]
        refine wpAnyH_take (i := 3) (oi := _) (v := ?_) rfl (by kernel_rfl) (by kernel_rfl) (by kernel_rfl) (fun _ _ _ h => h) (Or.inl ⟨by rfl, ?_⟩) (by assumption) ?_
        rotate_left
        · (intro w hSw; (try dsimp only at hSw); go_simp; try with_reducible rfl)
        try simp only [Act.put, List.getElem_toArray, List.getElem_cons_zero, List.getElem_cons_succ, List.setIfInBounds_toArray, List.set_cons_zero, List.set_cons_succ]
        refine wpAnyH_take (i := 4) (oi := _) (v := ?_) rfl (by kernel_rfl) (by kernel_rfl) (by kernel_rfl) (fun _ _ _ h => h) (Or.inl ⟨by rfl, ?_⟩) (by assumption) ?_
        rotate_left
        · (intro w hSw; (try dsimp only at hSw); go_simp; try with_reducible rfl)
        try simp only [Act.put, List.getElem_toArray, List.getElem_cons_zero, List.getElem_cons_succ, List.setIfInBounds_toArray, List.set_cons_zero, List.set_cons_succ]
        refine wpAnyH_take (i := 5) (oi := _) (v := ?_) rfl (by kernel_rfl) (by kernel_rfl) (by kernel_rfl) (fun _ _ _ h => h) (Or.inl ⟨by rfl, ?_⟩) (by assumption) ?_
        rotate_left
        · (intro w hSw; (try dsimp only at hSw); go_simp; try with_reducible rfl)
        try simp only [Act.put, List.getElem_toArray, List.getElem_cons_zero, List.getElem_cons_succ, List.setIfInBounds_toArray, List.set_cons_zero, List.set_cons_succ]
        refine wpAnyH_take (i := 6) (oi := _) (v := ?_) rfl (by kernel_rfl) (by kernel_rfl) (by kernel_rfl) (fun _ _ _ h => h) (Or.inl ⟨by rfl, ?_⟩) (by assumption) ?_
        rotate_left
        · (intro w hSw; (try dsimp only at hSw); go_simp; try with_reducible rfl)
        try simp only [Act.put, List.getElem_toArray, List.getElem_cons_zero, List.getElem_cons_succ, List.setIfInBounds_toArray, List.set_cons_zero, List.set_cons_succ]
        refine wpAnyH_take (i := 7) (oi := _) (v := ?_) rfl (by kernel_rfl) (by kernel_rfl) (by kernel_rfl) (fun _ _ _ h => h) (Or.inl ⟨by rfl, ?_⟩) (by assumption) ?_
        rotate_left
        · (intro w hSw; (try dsimp only at hSw); go_simp; try with_reducible rfl)
        try simp only [Act.put, List.getElem_toArray, List.getElem_cons_zero, List.getElem_cons_succ, List.setIfInBounds_toArray, List.set_cons_zero, List.set_cons_succ]
        refine wpAnyH_take (i := 8) (oi := _) (v := ?_) rfl (by kernel_rfl) (by kernel_rfl) (by kernel_rfl) (fun _ _ _ h => h) (Or.inl ⟨by rfl, ?_⟩) (by assumption) ?_
        rotate_left
        · (intro w hSw; (try dsimp only at hSw); go_simp; try with_reducible rfl)
        try simp only [Act.put, List.getElem_toArray, List.getElem_cons_zero, List.getElem_cons_succ, List.setIfInBounds_toArray, List.set_cons_zero, List.set_cons_succ]
        refine wpAnyH_take (i := 9) (oi := _) (v := ?_) rfl (by kernel_rfl) (by kernel_rfl) (by kernel_rfl) (fun _ _ _ h => h) (Or.inl ⟨by rfl, ?_⟩) (by assumption) ?_
        rotate_left
        · (intro w hSw; (try dsimp only at hSw); go_simp; try with_reducible rfl)
        try simp only [Act.put, List.getElem_toArray, List.getElem_cons_zero, List.getElem_cons_succ, List.setIfInBounds_toArray, List.set_cons_zero, List.set_cons_succ]
        refine wpAnyH_take (i := 10) (oi := _) (v := ?_) rfl (by kernel_rfl) (by kernel_rfl) (by kernel_rfl) (fun _ _ _ h => h) (Or.inl ⟨by rfl, ?_⟩) (by assumption) ?_
        rotate_left
        · (intro w hSw; (try dsimp only at hSw); go_simp; try with_reducible rfl)
        try simp only [Act.put, List.getElem_toArray, List.getElem_cons_zero, List.getElem_cons_succ, List.setIfInBounds_toArray, List.set_cons_zero, List.set_cons_succ]
        refine wpAnyH_ready (rs := [11]) (by kernel_rfl) (by simp) ?_
        refine AllReadyH.cons (o := _) rfl (fun K hK => ?_) AllReadyH.nil
        go_simp
        go_at_call 65; refine (cmpD _ B base vx vy d HD.out hbs).mono ?_; rintro e w2 ⟨rfl, hw⟩; subst hw
        try clear hHeld
        refine hK.out _ _ (by (try dsimp only); exact ⟨c1, c4⟩) (fun hHeld => ?_)
        clear hK K
        try simp only [Act.put, List.getElem_toArray, List.getElem_cons_zero, List.getElem_cons_succ, List.setIfInBounds_toArray, List.set_cons_zero, List.set_cons_succ]
        refine wpAnyH_take (i := 12) (oi := _) (v := ?_) rfl (by kernel_rfl) (by kernel_rfl) (by kernel_rfl) (fun _ _ _ h => h) (Or.inl ⟨by rfl, ?_⟩) (by assumption) ?_
        rotate_left
        · (intro w hSw; (try dsimp only at hSw); go_simp; try with_reducible rfl)
        try simp only [Act.put, List.getElem_toArray, List.getElem_cons_zero, List.getElem_cons_succ, List.setIfInBounds_toArray, List.set_cons_zero, List.set_cons_succ]
        refine wpAnyH_take (i := 13) (oi := _) (v := ?_) rfl (by kernel_rfl) (by kernel_rfl) (by kernel_rfl) (fun _ _ _ h => h) (Or.inl ⟨by rfl, ?_⟩) (by assumption) ?_
        rotate_left
        · (intro w hSw; (try dsimp only at hSw); go_simp; try with_reducible rfl)
        try simp only [Act.put, List.getElem_toArray, List.getElem_cons_zero, List.getElem_cons_succ, List.setIfInBounds_toArray, List.set_cons_zero, List.set_cons_succ]
        refine wpAnyH_done (by kernel_rfl) ?_ _
        have HS1 := Lib.hid (Srt.drew HS.out)
        generalize World.drew wr = W1 at HS1 hbs c1 c2 c3 c4 c5 c6 hHeld ⊢
        clear hbs c1 c2 c3 c4 c5 c6 hHeld HD
        generalize hbb : (!decide (d < 0)) = bb
        rcases bb with _ | _
        · have hdn : d < 0 := by simpa using hbb
          clear hbb
          go_wp2
          go_roundw
          case rel =>
            refine ⟨s, h, rfl, rfl, hs5, by omega, by omega, Lib.hid ⟨fun hs => ?_, HS1.out⟩⟩
            have h1 := sort_le hs hy9 hx9 (by omega)
            have h2 := HV.out
            omega
          case measure => simp [intOf]; omega
        · have hdp : 0 ≤ d := by simpa using hbb
          clear hbb
          go_wp2
          go_roundw
          case rel => exact ⟨h + 1, r, by go_num, rfl, by omega, by omega, hr5, Lib.hid ⟨HSO.out, HS1.out⟩⟩
          case measure => simp [intOf]; omega
      · have hse : s = r := by omega
        subst hse
        obtain ⟨e, he⟩ : ∃ e, e = N1 - s := ⟨_, rfl⟩
        have heb : m ≤ e ∧ e ≤ b ∧ mid ≤ e := by have := HNN.out; omega
        obtain ⟨he1, he2, he3⟩ := heb
        have hei : (N1 : Int) - (s : Int) = (e : Int) := by have := HNN.out; omega
        have HE := Lib.hid he
        clear he
        go_upto_region 39 with fail
        have HK0 := Lib.hid (Kept.refl (base := base) HR.out)
        by_cases hrt : s < m
        · skip
          have hr3 : (s : Int) < (m : Int) := by omega
          have hr4 : (m : Int) < (e : Int) := by have := HE.out; have := HNN.out; omega
          have hrm : m < e := by omega
          have HC := Lib.hid (rotateC I M _ g c B n base l s m e HN.out (by omega) hrm (by omega) hn1 HR.out HS.out)
          clear HS
          go_wp2_with fail
          go_at_call 75
          refine HC.out.mono ?_
          clear HC
          rintro e7 w7 ⟨rfl, l7, ⟨hl7, hr7⟩, hs7⟩
          have HK7 := Lib.hid (Kept.un (base := base) (l := l) (l' := l7) (by rw [hl7, HN.out]) hr7 (fun hs => by
            have h1 := HSO.out hs
            have h2 := HE.out
            have h3 := HNN.out
            omega))
          have HS := Lib.hid hs7
          clear hl7 hr7 hs7
          by_cases hb1 : a < s
          · by_cases hb2 : s < mid
            · skip
              have hb3 : (a : Int) < (s : Int) := by omega
              have hb4 : (s : Int) < (mid : Int) := by omega
              have HC := Lib.hid (IH.out l7 _ a s mid (by omega) (by rw [HK7.out.len, HN.out]) hb1 hb2 (by omega) HK7.out.rng HS.out)
              clear HS
              go_wp2_with fail
              go_at_call 74
              refine HC.out.mono ?_
              clear HC
              rintro e8 w8 ⟨rfl, l8, hk8, hs8⟩
              have HK8 := Lib.hid (HK7.out.trans hk8)
              have HS := Lib.hid hs8
              clear hk8 hs8
              by_cases hc1 : mid < e
              · by_cases hc2 : e < b
                · skip
                  have hc3 : (mid : Int) < (e : Int) := by omega
                  have hc4 : (e : Int) < (b : Int) := by omega
                  have HC := Lib.hid (IH.out l8 _ mid e b (by omega) (by rw [HK8.out.len, HN.out]) hc1 hc2 hb HK8.out.rng HS.out)
                  clear HS
                  go_wp2_with fail
                  go_at_call 74
                  refine HC.out.mono ?_
                  clear HC
                  rintro e9 w9 ⟨rfl, l9, hk9, hs9⟩
                  have HF := Lib.hid (show ∃ l', Kept base l l' ∧ Srt I M g c B base l' w9 from ⟨l9, HK8.out.trans hk9, hs9⟩)
                  clear hk9 hs9
                  go_wp2
                  go_returns
                  exact ⟨rfl, HF.out⟩
                · skip
                  have hc3 : (mid : Int) < (e : Int) := by omega
                  have hc4 : ¬ ((e : Int) < (b : Int)) := by omega
                  have HF := Lib.hid (show ∃ l', Kept base l l' ∧ Srt I M g c B base l' _ from ⟨l8, HK8.out, HS.out⟩)
                  clear HS
                  go_wp2
                  go_returns
                  exact ⟨rfl, HF.out⟩
              · skip
                have hc3 : ¬ ((mid : Int) < (e : Int)) := by omega
                have HF := Lib.hid (show ∃ l', Kept base l l' ∧ Srt I M g c B base l' _ from ⟨l8, HK8.out, HS.out⟩)
                clear HS
                go_wp2
                go_returns
                exact ⟨rfl, HF.out⟩
            · skip
              have hb3 : (a : Int) < (s : Int) := by omega
              have hb4 : ¬ ((s : Int) < (mid : Int)) := by omega
              by_cases hc1 : mid < e
              · by_cases hc2 : e < b
                · skip
                  have hc3 : (mid : Int) < (e : Int) := by omega
                  have hc4 : (e : Int) < (b : Int) := by omega
                  have HC := Lib.hid (IH.out l7 _ mid e b (by omega) (by rw [HK7.out.len, HN.out]) hc1 hc2 hb HK7.out.rng HS.out)
                  clear HS
                  go_wp2_with fail
                  go_at_call 74
                  refine HC.out.mono ?_
                  clear HC
                  rintro e9 w9 ⟨rfl, l9, hk9, hs9⟩
                  have HF := Lib.hid (show ∃ l', Kept base l l' ∧ Srt I M g c B base l' w9 from ⟨l9, HK7.out.trans hk9, hs9⟩)
                  clear hk9 hs9
                  go_wp2
                  go_returns
                  exact ⟨rfl, HF.out⟩
                · skip
                  have hc3 : (mid : Int) < (e : Int) := by omega
                  have hc4 : ¬ ((e : Int) < (b : Int)) := by omega
                  have HF := Lib.hid (show ∃ l', Kept base l l' ∧ Srt I M g c B base l' _ from ⟨l7, HK7.out, HS.out⟩)
                  clear HS
                  go_wp2
                  go_returns
                  exact ⟨rfl, HF.out⟩
              · skip
                have hc3 : ¬ ((mid : Int) < (e : Int)) := by omega
                have HF := Lib.hid (show ∃ l', Kept base l l' ∧ Srt I M g c B base l' _ from ⟨l7, HK7.out, HS.out⟩)
                clear HS
                go_wp2
                go_returns
                exact ⟨rfl, HF.out⟩
          · skip
            have hb3 : ¬ ((a : Int) < (s : Int)) := by omega
            by_cases hc1 : mid < e
            · by_cases hc2 : e < b
              · skip
                have hc3 : (mid : Int) < (e : Int) := by omega
                have hc4 : (e : Int) < (b : Int) := by omega
                have HC := Lib.hid (IH.out l7 _ mid e b (by omega) (by rw [HK7.out.len, HN.out]) hc1 hc2 hb HK7.out.rng HS.out)
                clear HS
                go_wp2_with fail
                go_at_call 74
                refine HC.out.mono ?_
                clear HC
                rintro e9 w9 ⟨rfl, l9, hk9, hs9⟩
                have HF := Lib.hid (show ∃ l', Kept base l l' ∧ Srt I M g c B base l' w9 from ⟨l9, HK7.out.trans hk9, hs9⟩)
                clear hk9 hs9
                go_wp2
                go_returns
                exact ⟨rfl, HF.out⟩
              · skip
                have hc3 : (mid : Int) < (e : Int) := by omega
                have hc4 : ¬ ((e : Int) < (b : Int)) := by omega
                have HF := Lib.hid (show ∃ l', Kept base l l' ∧ Srt I M g c B base l' _ from ⟨l7, HK7.out, HS.out⟩)
                clear HS
                go_wp2
                go_returns
                exact ⟨rfl, HF.out⟩
            · skip
              have hc3 : ¬ ((mid : Int) < (e : Int)) := by omega
              have HF := Lib.hid (show ∃ l', Kept base l l' ∧ Srt I M g c B base l' _ from ⟨l7, HK7.out, HS.out⟩)
              clear HS
              go_wp2
              go_returns
              exact ⟨rfl, HF.out⟩
        · skip
          have hr3 : ¬ ((s : Int) < (m : Int)) := by omega
          by_cases hb1 : a < s
          · by_cases hb2 : s < mid
            · skip
              have hb3 : (a : Int) < (s : Int) := by omega
              have hb4 : (s : Int) < (mid : Int) := by omega
              have HC := Lib.hid (IH.out l _ a s mid (by omega) (by rw [HK0.out.len, HN.out]) hb1 hb2 (by omega) HK0.out.rng HS.out)
              clear HS
              go_wp2_with fail
              go_at_call 74
              refine HC.out.mono ?_
              clear HC
              rintro e8 w8 ⟨rfl, l8, hk8, hs8⟩
              have HK8 := Lib.hid (HK0.out.trans hk8)
              have HS := Lib.hid hs8
              clear hk8 hs8
              by_cases hc1 : mid < e
              · by_cases hc2 : e < b
                · skip
                  have hc3 : (mid : Int) < (e : Int) := by omega
                  have hc4 : (e : Int) < (b : Int) := by omega
                  have HC := Lib.hid (IH.out l8 _ mid e b (by omega) (by rw [HK8.out.len, HN.out]) hc1 hc2 hb HK8.out.rng HS.out)
                  clear HS
                  go_wp2_with fail
                  go_at_call 74
                  refine HC.out.mono ?_
                  clear HC
                  rintro e9 w9 ⟨rfl, l9, hk9, hs9⟩
                  have HF := Lib.hid (show ∃ l', Kept base l l' ∧ Srt I M g c B base l' w9 from ⟨l9, HK8.out.trans hk9, hs9⟩)
                  clear hk9 hs9
                  go_wp2
                  go_returns
                  exact ⟨rfl, HF.out⟩
                · skip
                  have hc3 : (mid : Int) < (e : Int) := by omega
                  have hc4 : ¬ ((e : Int) < (b : Int)) := by omega
                  have HF := Lib.hid (show ∃ l', Kept base l l' ∧ Srt I M g c B base l' _ from ⟨l8, HK8.out, HS.out⟩)
                  clear HS
                  go_wp2
                  go_returns
                  exact ⟨rfl, HF.out⟩
              · skip
                have hc3 : ¬ ((mid : Int) < (e : Int)) := by omega
                have HF := Lib.hid (show ∃ l', Kept base l l' ∧ Srt I M g c B base l' _ from ⟨l8, HK8.out, HS.out⟩)
                clear HS
                go_wp2
                go_returns
                exact ⟨rfl, HF.out⟩
            · skip
              have hb3 : (a : Int) < (s : Int) := by omega
              have hb4 : ¬ ((s : Int) < (mid : Int)) := by omega
              by_cases hc1 : mid < e
              · by_cases hc2 : e < b
                · skip
                  have hc3 : (mid : Int) < (e : Int) := by omega
                  have hc4 : (e : Int) < (b : Int) := by omega
                  have HC := Lib.hid (IH.out l _ mid e b (by omega) (by rw [HK0.out.len, HN.out]) hc1 hc2 hb HK0.out.rng HS.out)
                  clear HS
                  go_wp2_with fail
                  go_at_call 74
                  refine HC.out.mono ?_
                  clear HC
                  rintro e9 w9 ⟨rfl, l9, hk9, hs9⟩
                  have HF := Lib.hid (show ∃ l', Kept base l l' ∧ Srt I M g c B base l' w9 from ⟨l9, HK0.out.trans hk9, hs9⟩)
                  clear hk9 hs9
                  go_wp2
                  go_returns
                  exact ⟨rfl, HF.out⟩
                · skip
                  have hc3 : (mid : Int) < (e : Int) := by omega
                  have hc4 : ¬ ((e : Int) < (b : Int)) := by omega
                  have HF := Lib.hid (show ∃ l', Kept base l l' ∧ Srt I M g c B base l' _ from ⟨l, HK0.out, HS.out⟩)
                  clear HS
                  go_wp2
                  go_returns
                  exact ⟨rfl, HF.out⟩
              · skip
                have hc3 : ¬ ((mid : Int) < (e : Int)) := by omega
                have HF := Lib.hid (show ∃ l', Kept base l l' ∧ Srt I M g c B base l' _ from ⟨l, HK0.out, HS.out⟩)
                clear HS
                go_wp2
                go_returns
                exact ⟨rfl, HF.out⟩
          · skip
            have hb3 : ¬ ((a : Int) < (s : Int)) := by omega
            by_cases hc1 : mid < e
            · by_cases hc2 : e < b
              · skip
                have hc3 : (mid : Int) < (e : Int) := by omega
                have hc4 : (e : Int) < (b : Int) := by omega
                have HC := Lib.hid (IH.out l _ mid e b (by omega) (by rw [HK0.out.len, HN.out]) hc1 hc2 hb HK0.out.rng HS.out)
                clear HS
                go_wp2_with fail
                go_at_call 74
                refine HC.out.mono ?_
                clear HC
                rintro e9 w9 ⟨rfl, l9, hk9, hs9⟩
                have HF := Lib.hid (show ∃ l', Kept base l l' ∧ Srt I M g c B base l' w9 from ⟨l9, HK0.out.trans hk9, hs9⟩)
                clear hk9 hs9
                go_wp2
                go_returns
                exact ⟨rfl, HF.out⟩
              · skip
                have hc3 : (mid : Int) < (e : Int) := by omega
                have hc4 : ¬ ((e : Int) < (b : Int)) := by omega
                have HF := Lib.hid (show ∃ l', Kept base l l' ∧ Srt I M g c B base l' _ from ⟨l, HK0.out, HS.out⟩)
                clear HS
                go_wp2
                go_returns
                exact ⟨rfl, HF.out⟩
            · skip
              have hc3 : ¬ ((mid : Int) < (e : Int)) := by omega
              have HF := Lib.hid (show ∃ l', Kept base l l' ∧ Srt I M g c B base l' _ from ⟨l, HK0.out, HS.out⟩)
              clear HS
              go_wp2
              go_returns
              exact ⟨rfl, HF.out⟩
end Go.Proofs.Ytddopbbmgpnjjaa
namespace Go.Proofs.Ytddopbbmgpnjjaa
open Go.RowKit
set_option linter.unusedSimpArgs false

set_option maxRecDepth 8000 in
set_option maxHeartbeats 8000000 in
theorem stableC (I : Img) (M : List Res) (w : World) (g c B n : Nat) (base : Int) (l : List Int) (hn : l.length = n) (hn1 : n ≤ 1000000) (hr : Rng l) (hst : Srt I M g c B base l w) :
    Calls Try.prog 72 #[.slice (some ⟨g, 0, none⟩) n c, .int .i64 n, .func (.func 65) #[] #[.pointer (some ⟨B, 0, none⟩)]] w (Does I M g c B base l) := by
  have HS := Lib.hid hst
  have HR := Lib.hid hr
  have HN := Lib.hid hn
  clear hst hr hn
  go_enter Try.func72, Try.ntmps72
  go_upto_region 2 with fail
  go_loopw [7, 8] (fun av bv wr => ∃ a b : Nat, av = .int .i64 a ∧ bv = .int .i64 b ∧ b = a + 20 ∧ a ≤ n ∧ Hid (∃ l1, Kept base l l1 ∧ Srt I M g c B base l1 wr)) (fun av _ _ => n - (intOf av).toNat)
  case atStart => exact ⟨0, 20, by go_num, by go_num, rfl, by omega, Lib.hid ⟨l, .refl HR.out, HS.out⟩⟩
  case round =>
    obtain ⟨a, b, rfl, rfl, hab, han, hh⟩ := hrel
    clear HS
    obtain ⟨l1, hk, hs⟩ := hh.out
    clear hh
    have HK := Lib.hid hk
    by_cases hbn : b ≤ n
    · have hbn2 : (b : Int) ≤ (n : Int) := by omega
      have HC := Lib.hid (insertC I M wr g c B n base l1 a b (by rw [hk.len, HN.out]) (by omega) hbn hn1 hk.rng hs)
      have HAB := Lib.hid hab
      clear hk hs hab
      go_wp2_with fail
      go_at_call 73
      refine HC.out.mono ?_
      clear HC
      rintro e w2 ⟨rfl, l2, hk2, hs2⟩
      have HF := Lib.hid (show ∃ l1, Kept base l l1 ∧ Srt I M g c B base l1 w2 from ⟨l2, HK.out.trans hk2, hs2⟩)
      clear hk2 hs2
      go_wp2
      go_roundw
      case rel => exact ⟨b, b + 20, rfl, by go_num, rfl, hbn, HF⟩
      case measure => have := HAB.out; simp [intOf]; omega
    · have hbn2 : ¬ ((b : Int) ≤ (n : Int)) := by omega
      have HC := Lib.hid (insertC I M wr g c B n base l1 a n (by rw [hk.len, HN.out]) han (Nat.le_refl _) hn1 hk.rng hs)
      clear hk hs hab
      go_wp2_with fail
      go_at_call 73
      refine HC.out.mono ?_
      clear HC
      rintro e w2 ⟨rfl, l2, hk2, hs2⟩
      have HF := Lib.hid (show ∃ l1, Kept base l l1 ∧ Srt I M g c B base l1 w2 from ⟨l2, HK.out.trans hk2, hs2⟩)
      clear hk2 hs2 HK
      go_upto_region 7 with fail
      go_loopw [6] (fun sv wr => ∃ s : Nat, sv = .int .i64 s ∧ 20 ≤ s ∧ s ≤ 2000000 ∧ Hid (∃ l1, Kept base l l1 ∧ Srt I M g c B base l1 wr)) (fun sv _ => n - (intOf sv).toNat)
      case atStart => exact ⟨20, by go_num, by omega, by omega, HF⟩
      case round =>
        obtain ⟨s, rfl, hs20, hs2m, hh⟩ := hrel
        clear HF
        by_cases hsn : s < n
        · have hsn2 : (s : Int) < (n : Int) := by omega
          go_upto_region 9 with fail
          go_loopw [7, 8] (fun av bv wr => ∃ a b : Nat, av = .int .i64 a ∧ bv = .int .i64 b ∧ b = a + 2 * s ∧ a ≤ n ∧ Hid (∃ l1, Kept base l l1 ∧ Srt I M g c B base l1 wr)) (fun av _ _ => n - (intOf av).toNat)
          case atStart => exact ⟨0, 2 * s, by go_num, by go_num, by omega, by omega, hh⟩
          case round =>
            obtain ⟨a, b, rfl, rfl, hab, han, hh⟩ := hrel
            obtain ⟨l1, hk, hs⟩ := hh.out
            clear hh
            have HK := Lib.hid hk
            obtain ⟨m, hm⟩ : ∃ m, m = a + s := ⟨_, rfl⟩
            have hmi : (a : Int) + (s : Int) = (m : Int) := by omega
            by_cases hbn : b ≤ n
            · have hbn2 : (b : Int) ≤ (n : Int) := by omega
              have HC := Lib.hid (symC I M g c B n base hn1 (b - a) l1 wr a m b (Nat.le_refl _) (by rw [hk.len, HN.out]) (by omega) (by omega) hbn hk.rng hs)
              have HAB := Lib.hid (And.intro hab hm)
              clear hk hs hab hm
              go_wp2_with fail
              go_at_call 74
              refine HC.out.mono ?_
              clear HC
              rintro e w2 ⟨rfl, l2, hk2, hs2⟩
              have HF := Lib.hid (show ∃ l1, Kept base l l1 ∧ Srt I M g c B base l1 w2 from ⟨l2, HK.out.trans hk2, hs2⟩)
              clear hk2 hs2
              go_wp2
              go_roundw
              case rel => exact ⟨b, b + 2 * s, rfl, by go_num, rfl, hbn, HF⟩
              case measure => have := HAB.out; simp [intOf]; omega
            · have hbn2 : ¬ ((b : Int) ≤ (n : Int)) := by omega
              by_cases hmn : m < n
              · have hmn2 : (m : Int) < (n : Int) := by omega
                have HC := Lib.hid (symC I M g c B n base hn1 (n - a) l1 wr a m n (Nat.le_refl _) (by rw [hk.len, HN.out]) (by omega) hmn (Nat.le_refl _) hk.rng hs)
                clear hk hs hab hm
                go_wp2_with fail
                go_at_call 74
                refine HC.out.mono ?_
                clear HC
                rintro e w2 ⟨rfl, l2, hk2, hs2⟩
                have HF := Lib.hid (show ∃ l1, Kept base l l1 ∧ Srt I M g c B base l1 w2 from ⟨l2, HK.out.trans hk2, hs2⟩)
                clear hk2 hs2
                go_wp2
                go_roundw
                case rel => exact ⟨2 * s, by go_num, by omega, by omega, HF⟩
                case measure => simp [intOf]; omega
              · have hmn2 : ¬ ((m : Int) < (n : Int)) := by omega
                have HF := Lib.hid (show ∃ l1, Kept base l l1 ∧ Srt I M g c B base l1 wr from ⟨l1, hk, hs⟩)
                clear hk hs hab hm
                go_wp2
                go_roundw
                case rel => exact ⟨2 * s, by go_num, by omega, by omega, HF⟩
                case measure => simp [intOf]; omega
        · have hsn2 : ¬ ((s : Int) < (n : Int)) := by omega
          have hf : ∃ l', Kept base l l' ∧ Srt I M g c B base l' wr := hh.out
          have HF := Lib.hid hf
          clear hf hh
          go_wp2
          go_returns
          exact ⟨rfl, HF.out⟩
set_option maxHeartbeats 2000000 in
/-- slices.SortStableFunc of a row of the call's own, by the distance from base -/
theorem sortC (I : Img) (M : List Res) (w : World) (g c B : Nat) (base : Int) (l : List Int) (hn1 : l.length ≤ 1000000) (hr : Rng l) (hst : Srt I M g c B base l w) :
    Calls Try.prog 64 #[.slice (some ⟨g, 0, none⟩) l.length c, .func (.func 65) #[] #[.pointer (some ⟨B, 0, none⟩)]] w (Does I M g c B base l) := by
  have HC := Lib.hid (stableC I M w g c B l.length base l rfl hn1 hr hst)
  clear hst hr
  go_enter Try.func64, Try.ntmps64
  go_wp2_with fail
  go_at_call 72
  refine HC.out.mono ?_
  clear HC
  rintro e w2 ⟨rfl, hf⟩
  have HF := Lib.hid hf
  clear hf
  go_wp2
  go_returns
  exact ⟨rfl, HF.out⟩
end Go.Proofs.Ytddopbbmgpnjjaa
