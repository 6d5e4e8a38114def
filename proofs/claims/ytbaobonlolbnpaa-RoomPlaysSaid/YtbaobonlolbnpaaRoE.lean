/- slices.IndexFunc (by wip/room/gen.py) -/
import Derived.Test.YtbaobonlolbnpaaRoC
import Derived.Test.YtbaobonlolbnpaaSl
import Derived.Shelf.Abstract
namespace Go.Proofs.Ytbaobonlolbnpaa
open Go.RowKit
set_option linter.unusedSimpArgs false

theorem take_cell {α : Type} {f : α → List Value} {s : Nat} {cur : Array Value} {l : List α} (hs : ∀ x, (f x).length = s) (h : cur.toList.take (l.length * s) = flat f l) {i j : Nat} (hi : i < l.length) (hj : j < s) : cur[i * s + j]? = (f l[i])[j]? := by
  have hlt : i * s + j < l.length * s := by
    have := Nat.mul_le_mul_right s (show i + 1 ≤ l.length by omega)
    rw [Nat.add_mul, Nat.one_mul] at this
    omega
  rw [← flat_at hs l i j hi hj, ← h, List.getElem?_take_of_lt hlt]
  simp

theorem idxS0 (w : World) (A : Option Addr) (c : Nat) (f : Value) : Calls Try.prog 53 #[.slice A 0 c, f] w fun e w' => e = .returned (.int .i64 (-1)) ∧ w' = w := by
  go_enter Try.func53, Try.ntmps53
  go_wp2
  go_loopw [8] (fun iv wr => iv = .int .i64 0 ∧ wr = w) (fun _ _ => 0)
  case atStart => exact ⟨rfl, rfl⟩
  case round =>
    obtain ⟨rfl, hwr⟩ := hrel
    subst wr
    go_wp2
    go_returns
    exact ⟨rfl, rfl⟩
set_option maxRecDepth 8000 in
set_option maxHeartbeats 2000000 in
theorem idxSC (I : Img) (M : List Res) (w : World) (g c k : Nat) (cur : Array Value) (cap : Array Value) (l : List Sb) (p : Sb → Bool) (eg : ∀ args w, (callFunc k args).run Try.prog w = .ok (.enter k args) w)
    (hp : ∀ (cur : Array Value) (W : World), St I (bk g 49 cur :: M) W → ∀ x ∈ l, Calls Try.prog k (#[.agg #[.int .i64 x.member, .int .i64 x.track, .int .i64 x.layer]] ++ cap) W (fun e w' => e = .returned (.bool (p x)) ∧ Below W.heap.size W w'))
    (hst : St I (bk g 49 cur :: M) w) (hcur : cur.toList.take (l.length * 3) = flat sbC l) (hl : l.length ≤ 1000000) :
    Calls Try.prog 53 #[.slice (some ⟨g, 0, none⟩) l.length c, .func (.func k) #[] cap] w fun e w' => e = .returned (.int .i64 (idx p l)) ∧ St I (bk g 49 cur :: M) w' := by
  have H0 := Lib.hid hst
  have HCUR := Lib.hid hcur
  have HP := Lib.hid hp
  have EG := Lib.hid eg
  clear hst hcur hp eg
  go_enter Try.func53, Try.ntmps53
  go_wp2
  go_loopw [8] (fun iv wr => ∃ i : Nat, i ≤ l.length ∧ iv = .int .i64 i ∧ Hid ((∀ j (hj : j < l.length), j < i → p l[j] = false) ∧ St I (bk g 49 cur :: M) wr)) (fun iv _ => l.length - (intOf iv).toNat)
  case atStart => exact ⟨0, by omega, rfl, fun j hj h => by omega, H0.out⟩
  case round =>
    obtain ⟨i, hi, rfl, hh⟩ := hrel
    obtain ⟨hno, hs⟩ := hh.out
    have HNO := Lib.hid hno
    clear hh H0 hno
    by_cases hlt : i < l.length
    · have hcell : ∀ j, j < 3 → wr.cell? ⟨g, i * 3 + j, none⟩ = (sbC l[i])[j]? := fun j hj => (Blk.cell hs.head _).trans (take_cell (f := sbC) (s := 3) (fun _ => rfl) HCUR.out hlt hj)
      have hm := List.getElem_mem hlt
      obtain ⟨x, hx⟩ : ∃ x, x = l[i] := ⟨_, rfl⟩
      rw [← hx] at hcell hm
      have z0 : wr.cell? ⟨g, i * 3, none⟩ = some (.int .i64 x.member) := hcell 0 (by decide)
      have z1 : wr.cell? ⟨g, i * 3 + 1, none⟩ = some (.int .i64 x.track) := hcell 1 (by decide)
      have z2 : wr.cell? ⟨g, i * 3 + 2, none⟩ = some (.int .i64 x.layer) := hcell 2 (by decide)
      have hglt := hs.head.lt
      have hpx := HP.out cur wr hs x hm
      have HX := Lib.hid hx
      have HS := Lib.hid hs
      have eg := EG.out
      clear hcell hm hx hs
      cases hb : p x
      · have HNO2 := Lib.hid (show ∀ j (hj : j < l.length), j < i + 1 → p l[j] = false from fun j hj h1 => by
          by_cases e : j = i
          · subst e; rw [← HX.out]; exact hb
          · exact HNO.out j hj (by omega))
        go_wp2_with (go_at_fn k; refine hpx.mono ?_; clear hpx; rintro e w2 ⟨rfl, hb2⟩; have HS2 := Lib.hid (HS.out.below hb2); clear hb2)
        go_roundw
        case rel => exact ⟨i + 1, by omega, by go_num, HNO2.out, HS2.out⟩
        case measure => simp [intOf]; omega
      · have HE := Lib.hid (show idx p l = (i : Int) from idx_hit hlt (by rw [← HX.out]; exact hb) HNO.out)
        go_wp2_with (go_at_fn k; refine hpx.mono ?_; clear hpx; rintro e w2 ⟨rfl, hb2⟩; have HS2 := Lib.hid (HS.out.below hb2); clear hb2)
        go_returns
        exact ⟨ret_eq (by rw [HE.out]; rfl), HS2.out⟩
    · have HE := Lib.hid (show idx p l = -1 from idx_none (fun j hj => HNO.out j hj (by omega)))
      have hk2 : (l.length : Int) ≤ i := by omega
      have HS2 := Lib.hid hs
      clear hlt hs
      go_wp2
      go_returns
      exact ⟨ret_eq (by rw [HE.out]; rfl), HS2.out⟩
theorem idxT0 (w : World) (A : Option Addr) (c : Nat) (f : Value) : Calls Try.prog 54 #[.slice A 0 c, f] w fun e w' => e = .returned (.int .i64 (-1)) ∧ w' = w := by
  go_enter Try.func54, Try.ntmps54
  go_wp2
  go_loopw [8] (fun iv wr => iv = .int .i64 0 ∧ wr = w) (fun _ _ => 0)
  case atStart => exact ⟨rfl, rfl⟩
  case round =>
    obtain ⟨rfl, hwr⟩ := hrel
    subst wr
    go_wp2
    go_returns
    exact ⟨rfl, rfl⟩
set_option maxRecDepth 8000 in
set_option maxHeartbeats 2000000 in
theorem idxTC (I : Img) (M : List Res) (w : World) (g c k : Nat) (cur : Array Value) (cap : Array Value) (l : List Trk) (p : Trk → Bool) (eg : ∀ args w, (callFunc k args).run Try.prog w = .ok (.enter k args) w)
    (hp : ∀ (cur : Array Value) (W : World), St I (bk g 47 cur :: M) W → ∀ x ∈ l, Calls Try.prog k (#[.agg #[.int .i64 x.id, .int .i64 x.member, .string x.mid, .int .i64 x.kind]] ++ cap) W (fun e w' => e = .returned (.bool (p x)) ∧ Below W.heap.size W w'))
    (hst : St I (bk g 47 cur :: M) w) (hcur : cur.toList.take (l.length * 4) = flat trkC l) (hl : l.length ≤ 1000000) :
    Calls Try.prog 54 #[.slice (some ⟨g, 0, none⟩) l.length c, .func (.func k) #[] cap] w fun e w' => e = .returned (.int .i64 (idx p l)) ∧ St I (bk g 47 cur :: M) w' := by
  have H0 := Lib.hid hst
  have HCUR := Lib.hid hcur
  have HP := Lib.hid hp
  have EG := Lib.hid eg
  clear hst hcur hp eg
  go_enter Try.func54, Try.ntmps54
  go_wp2
  go_loopw [8] (fun iv wr => ∃ i : Nat, i ≤ l.length ∧ iv = .int .i64 i ∧ Hid ((∀ j (hj : j < l.length), j < i → p l[j] = false) ∧ St I (bk g 47 cur :: M) wr)) (fun iv _ => l.length - (intOf iv).toNat)
  case atStart => exact ⟨0, by omega, rfl, fun j hj h => by omega, H0.out⟩
  case round =>
    obtain ⟨i, hi, rfl, hh⟩ := hrel
    obtain ⟨hno, hs⟩ := hh.out
    have HNO := Lib.hid hno
    clear hh H0 hno
    by_cases hlt : i < l.length
    · have hcell : ∀ j, j < 4 → wr.cell? ⟨g, i * 4 + j, none⟩ = (trkC l[i])[j]? := fun j hj => (Blk.cell hs.head _).trans (take_cell (f := trkC) (s := 4) (fun _ => rfl) HCUR.out hlt hj)
      have hm := List.getElem_mem hlt
      obtain ⟨x, hx⟩ : ∃ x, x = l[i] := ⟨_, rfl⟩
      rw [← hx] at hcell hm
      have z0 : wr.cell? ⟨g, i * 4, none⟩ = some (.int .i64 x.id) := hcell 0 (by decide)
      have z1 : wr.cell? ⟨g, i * 4 + 1, none⟩ = some (.int .i64 x.member) := hcell 1 (by decide)
      have z2 : wr.cell? ⟨g, i * 4 + 2, none⟩ = some (.string x.mid) := hcell 2 (by decide)
      have z3 : wr.cell? ⟨g, i * 4 + 3, none⟩ = some (.int .i64 x.kind) := hcell 3 (by decide)
      have hglt := hs.head.lt
      have hpx := HP.out cur wr hs x hm
      have HX := Lib.hid hx
      have HS := Lib.hid hs
      have eg := EG.out
      clear hcell hm hx hs
      cases hb : p x
      · have HNO2 := Lib.hid (show ∀ j (hj : j < l.length), j < i + 1 → p l[j] = false from fun j hj h1 => by
          by_cases e : j = i
          · subst e; rw [← HX.out]; exact hb
          · exact HNO.out j hj (by omega))
        go_wp2_with (go_at_fn k; refine hpx.mono ?_; clear hpx; rintro e w2 ⟨rfl, hb2⟩; have HS2 := Lib.hid (HS.out.below hb2); clear hb2)
        go_roundw
        case rel => exact ⟨i + 1, by omega, by go_num, HNO2.out, HS2.out⟩
        case measure => simp [intOf]; omega
      · have HE := Lib.hid (show idx p l = (i : Int) from idx_hit hlt (by rw [← HX.out]; exact hb) HNO.out)
        go_wp2_with (go_at_fn k; refine hpx.mono ?_; clear hpx; rintro e w2 ⟨rfl, hb2⟩; have HS2 := Lib.hid (HS.out.below hb2); clear hb2)
        go_returns
        exact ⟨ret_eq (by rw [HE.out]; rfl), HS2.out⟩
    · have HE := Lib.hid (show idx p l = -1 from idx_none (fun j hj => HNO.out j hj (by omega)))
      have hk2 : (l.length : Int) ≤ i := by omega
      have HS2 := Lib.hid hs
      clear hlt hs
      go_wp2
      go_returns
      exact ⟨ret_eq (by rw [HE.out]; rfl), HS2.out⟩
theorem idxM0 (w : World) (A : Option Addr) (c : Nat) (f : Value) : Calls Try.prog 55 #[.slice A 0 c, f] w fun e w' => e = .returned (.int .i64 (-1)) ∧ w' = w := by
  go_enter Try.func55, Try.ntmps55
  go_wp2
  go_loopw [8] (fun iv wr => iv = .int .i64 0 ∧ wr = w) (fun _ _ => 0)
  case atStart => exact ⟨rfl, rfl⟩
  case round =>
    obtain ⟨rfl, hwr⟩ := hrel
    subst wr
    go_wp2
    go_returns
    exact ⟨rfl, rfl⟩
set_option maxRecDepth 8000 in
set_option maxHeartbeats 2000000 in
theorem idxMC (I : Img) (M : List Res) (w : World) (g c k : Nat) (cur : Array Value) (cap : Array Value) (l : List Mem) (p : Mem → Bool) (eg : ∀ args w, (callFunc k args).run Try.prog w = .ok (.enter k args) w)
    (hp : ∀ (cur : Array Value) (W : World), St I (bk g 73 cur :: M) W → ∀ x ∈ l, Calls Try.prog k (#[.agg #[.int .i64 x.id, .string x.room, .string x.user, .int .i64 x.til, .int .i64 x.rights]] ++ cap) W (fun e w' => e = .returned (.bool (p x)) ∧ Below W.heap.size W w'))
    (hst : St I (bk g 73 cur :: M) w) (hcur : cur.toList.take (l.length * 5) = flat memC l) (hl : l.length ≤ 1000000) :
    Calls Try.prog 55 #[.slice (some ⟨g, 0, none⟩) l.length c, .func (.func k) #[] cap] w fun e w' => e = .returned (.int .i64 (idx p l)) ∧ St I (bk g 73 cur :: M) w' := by
  have H0 := Lib.hid hst
  have HCUR := Lib.hid hcur
  have HP := Lib.hid hp
  have EG := Lib.hid eg
  clear hst hcur hp eg
  go_enter Try.func55, Try.ntmps55
  go_wp2
  go_loopw [8] (fun iv wr => ∃ i : Nat, i ≤ l.length ∧ iv = .int .i64 i ∧ Hid ((∀ j (hj : j < l.length), j < i → p l[j] = false) ∧ St I (bk g 73 cur :: M) wr)) (fun iv _ => l.length - (intOf iv).toNat)
  case atStart => exact ⟨0, by omega, rfl, fun j hj h => by omega, H0.out⟩
  case round =>
    obtain ⟨i, hi, rfl, hh⟩ := hrel
    obtain ⟨hno, hs⟩ := hh.out
    have HNO := Lib.hid hno
    clear hh H0 hno
    by_cases hlt : i < l.length
    · have hcell : ∀ j, j < 5 → wr.cell? ⟨g, i * 5 + j, none⟩ = (memC l[i])[j]? := fun j hj => (Blk.cell hs.head _).trans (take_cell (f := memC) (s := 5) (fun _ => rfl) HCUR.out hlt hj)
      have hm := List.getElem_mem hlt
      obtain ⟨x, hx⟩ : ∃ x, x = l[i] := ⟨_, rfl⟩
      rw [← hx] at hcell hm
      have z0 : wr.cell? ⟨g, i * 5, none⟩ = some (.int .i64 x.id) := hcell 0 (by decide)
      have z1 : wr.cell? ⟨g, i * 5 + 1, none⟩ = some (.string x.room) := hcell 1 (by decide)
      have z2 : wr.cell? ⟨g, i * 5 + 2, none⟩ = some (.string x.user) := hcell 2 (by decide)
      have z3 : wr.cell? ⟨g, i * 5 + 3, none⟩ = some (.int .i64 x.til) := hcell 3 (by decide)
      have z4 : wr.cell? ⟨g, i * 5 + 4, none⟩ = some (.int .i64 x.rights) := hcell 4 (by decide)
      have hglt := hs.head.lt
      have hpx := HP.out cur wr hs x hm
      have HX := Lib.hid hx
      have HS := Lib.hid hs
      have eg := EG.out
      clear hcell hm hx hs
      cases hb : p x
      · have HNO2 := Lib.hid (show ∀ j (hj : j < l.length), j < i + 1 → p l[j] = false from fun j hj h1 => by
          by_cases e : j = i
          · subst e; rw [← HX.out]; exact hb
          · exact HNO.out j hj (by omega))
        go_wp2_with (go_at_fn k; refine hpx.mono ?_; clear hpx; rintro e w2 ⟨rfl, hb2⟩; have HS2 := Lib.hid (HS.out.below hb2); clear hb2)
        go_roundw
        case rel => exact ⟨i + 1, by omega, by go_num, HNO2.out, HS2.out⟩
        case measure => simp [intOf]; omega
      · have HE := Lib.hid (show idx p l = (i : Int) from idx_hit hlt (by rw [← HX.out]; exact hb) HNO.out)
        go_wp2_with (go_at_fn k; refine hpx.mono ?_; clear hpx; rintro e w2 ⟨rfl, hb2⟩; have HS2 := Lib.hid (HS.out.below hb2); clear hb2)
        go_returns
        exact ⟨ret_eq (by rw [HE.out]; rfl), HS2.out⟩
    · have HE := Lib.hid (show idx p l = -1 from idx_none (fun j hj => HNO.out j hj (by omega)))
      have hk2 : (l.length : Int) ≤ i := by omega
      have HS2 := Lib.hid hs
      clear hlt hs
      go_wp2
      go_returns
      exact ⟨ret_eq (by rw [HE.out]; rfl), HS2.out⟩
end Go.Proofs.Ytbaobonlolbnpaa
