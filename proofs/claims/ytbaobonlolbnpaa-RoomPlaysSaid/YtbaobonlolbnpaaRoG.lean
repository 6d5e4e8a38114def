/- room.House: the functions that it hands in; slices.ContainsFunc. -/
import Derived.Test.YtbaobonlolbnpaaRoF
namespace Go.Proofs.Ytbaobonlolbnpaa
open Go.RowKit
set_option linter.unusedSimpArgs false
theorem eg36 : ∀ args w, (callFunc 36 args).run Try.prog w = .ok (.enter 36 args) w := enters_of Try.func36 (by kernel_rfl) rfl
theorem eg39 : ∀ args w, (callFunc 39 args).run Try.prog w = .ok (.enter 39 args) w := enters_of Try.func39 (by kernel_rfl) rfl
theorem eg41 : ∀ args w, (callFunc 41 args).run Try.prog w = .ok (.enter 41 args) w := enters_of Try.func41 (by kernel_rfl) rfl
theorem eg47 : ∀ args w, (callFunc 47 args).run Try.prog w = .ok (.enter 47 args) w := enters_of Try.func47 (by kernel_rfl) rfl
theorem eg48 : ∀ args w, (callFunc 48 args).run Try.prog w = .ok (.enter 48 args) w := enters_of Try.func48 (by kernel_rfl) rfl
theorem eg49 : ∀ args w, (callFunc 49 args).run Try.prog w = .ok (.enter 49 args) w := enters_of Try.func49 (by kernel_rfl) rfl
theorem eg50 : ∀ args w, (callFunc 50 args).run Try.prog w = .ok (.enter 50 args) w := enters_of Try.func50 (by kernel_rfl) rfl
theorem c39 (w : World) (x : Trk) (q : Nat) (id : Int) (hq : w.cell? ⟨q, 0, none⟩ = some (.int .i64 id)) :
    Calls Try.prog 39 #[.agg #[.int .i64 x.id, .int .i64 x.member, .string x.mid, .int .i64 x.kind], .pointer (some ⟨q, 0, none⟩)] w fun e w' => e = .returned (.bool (x.member == id)) ∧ Below w.heap.size w w' := by
  have hlt := cell_lt hq
  go_enter Try.func39, Try.ntmps39
  go_wp2
  go_returns
  exact ⟨rfl, (Below.refl _ _).alloc (Nat.le_refl _) _⟩

theorem c41 (w : World) (x : Mem) (q : Nat) (id : Int) (hq : w.cell? ⟨q, 0, none⟩ = some (.int .i64 id)) :
    Calls Try.prog 41 #[.agg #[.int .i64 x.id, .string x.room, .string x.user, .int .i64 x.til, .int .i64 x.rights], .pointer (some ⟨q, 0, none⟩)] w fun e w' => e = .returned (.bool (x.id == id)) ∧ Below w.heap.size w w' := by
  have hlt := cell_lt hq
  go_enter Try.func41, Try.ntmps41
  go_wp2
  go_returns
  exact ⟨rfl, (Below.refl _ _).alloc (Nat.le_refl _) _⟩

theorem c48 (w : World) (x : Trk) (q : Nat) (id : Int) (hq : w.cell? ⟨q, 0, none⟩ = some (.int .i64 id)) :
    Calls Try.prog 48 #[.agg #[.int .i64 x.id, .int .i64 x.member, .string x.mid, .int .i64 x.kind], .pointer (some ⟨q, 0, none⟩)] w fun e w' => e = .returned (.bool (x.id == id)) ∧ Below w.heap.size w w' := by
  have hlt := cell_lt hq
  go_enter Try.func48, Try.ntmps48
  go_wp2
  go_returns
  exact ⟨rfl, (Below.refl _ _).alloc (Nat.le_refl _) _⟩

theorem c49 (w : World) (x : Sb) (q : Nat) (id : Int) (hq : w.cell? ⟨q, 0, none⟩ = some (.int .i64 id)) :
    Calls Try.prog 49 #[.agg #[.int .i64 x.member, .int .i64 x.track, .int .i64 x.layer], .pointer (some ⟨q, 0, none⟩)] w fun e w' => e = .returned (.bool (x.track == id)) ∧ Below w.heap.size w w' := by
  have hlt := cell_lt hq
  go_enter Try.func49, Try.ntmps49
  go_wp2
  go_returns
  exact ⟨rfl, (Below.refl _ _).alloc (Nat.le_refl _) _⟩

theorem c50 (w : World) (x : Sb) (q r : Nat) (id : Int) (y : Int) (hq : w.cell? ⟨q, 0, none⟩ = some (.int .i64 id)) (hr : w.cell? ⟨r, 0, none⟩ = some (.int .i64 y)) :
    Calls Try.prog 50 #[.agg #[.int .i64 x.member, .int .i64 x.track, .int .i64 x.layer], .pointer (some ⟨q, 0, none⟩), .pointer (some ⟨r, 0, none⟩)] w fun e w' => e = .returned (.bool (x.member == id && x.track == y)) ∧ Below w.heap.size w w' := by
  have hlt := cell_lt hq
  have hlt2 := cell_lt hr
  go_enter Try.func50, Try.ntmps50
  cases h1 : (x.member == id)
  · go_wp2
    go_returns
    exact ⟨rfl, (Below.refl _ _).alloc (Nat.le_refl _) _⟩
  · go_wp2
    go_returns
    exact ⟨by first | rfl | simp [*], (Below.refl _ _).alloc (Nat.le_refl _) _⟩

theorem c47 (w : World) (x : Trk) (q r : Nat) (id : Int) (y : ByteArray) (hq : w.cell? ⟨q, 0, none⟩ = some (.int .i64 id)) (hr : w.cell? ⟨r, 0, none⟩ = some (.string y)) :
    Calls Try.prog 47 #[.agg #[.int .i64 x.id, .int .i64 x.member, .string x.mid, .int .i64 x.kind], .pointer (some ⟨q, 0, none⟩), .pointer (some ⟨r, 0, none⟩)] w fun e w' => e = .returned (.bool (x.member == id && x.mid.toList == y.toList)) ∧ Below w.heap.size w w' := by
  have hlt := cell_lt hq
  have hlt2 := cell_lt hr
  go_enter Try.func47, Try.ntmps47
  cases h1 : (x.member == id)
  · go_wp2
    go_returns
    exact ⟨rfl, (Below.refl _ _).alloc (Nat.le_refl _) _⟩
  · go_wp2
    go_returns
    exact ⟨by first | rfl | simp [*], (Below.refl _ _).alloc (Nat.le_refl _) _⟩

set_option maxHeartbeats 1000000 in
theorem trackC2 (I : Img) (M : List Res) (w : World) (p : Nat) (h : Ho) (vM vT vS : Value) (id : Int) (hst : St I (row 47 4 vT h.ts.length (flat trkC h.ts) :: bk p 66 #[vM, vT, vS, .int .i64 h.lm, .int .i64 h.li] :: M) w) (hl : h.ts.length ≤ 140737488351232) :
    Calls Try.prog 37 #[.pointer (some ⟨p, 0, none⟩), .int .i64 id] w fun e w' => w = w' ∧ ∃ r, e = .returned (.pointer r) ∧ trkAt h vT id r := by
  obtain ⟨hcP, _, hlP⟩ := Blk.all (hst.at 1 rfl)
  obtain ⟨A, c, rfl⟩ := own_form (show w.ownsRow 0 47 4 vT _ _ from hst.head)
  have HST := Lib.hid hst
  clear hst
  go_enter Try.func37, Try.ntmps37
  go_wp2
  go_loopw [11] (fun iv wr => ∃ k : Nat, k ≤ h.ts.length ∧ iv = .int .i64 k ∧ wr = w ∧ Hid (∀ j (hj : j < h.ts.length), j < k → h.ts[j].id ≠ id)) (fun iv _ => h.ts.length - (intOf iv).toNat)
  case atStart => exact ⟨0, by omega, rfl, rfl, fun j hj h => by omega⟩
  case round =>
    obtain ⟨k, hk, rfl, hwr, hno⟩ := hrel
    subst wr
    by_cases hlt : k < h.ts.length
    · obtain ⟨g, rfl, _, hcc, hg, hcell, _⟩ := flat_cell (f := trkC) (s := 4) (fun _ => rfl) HST.out (by omega) (by decide)
      have z0 := hcell k hlt 0 (by decide)
      rw [Nat.add_zero] at z0
      obtain ⟨x, hx⟩ : ∃ x, x = h.ts[k] := ⟨_, rfl⟩
      rw [← hx] at z0
      have z0 : w.cell? ⟨g, k * 4, none⟩ = some (.int .i64 x.id) := z0
      have HX := Lib.hid hx
      clear hcell hx
      by_cases hid : x.id = id
      · have hbe : (x.id == id) = true := by simpa using hid
        have HID := Lib.hid hid
        clear hid
        go_wp2
        go_returns
        exact ⟨rfl, _, rfl, .inr ⟨k, hlt, by rw [← HX.out]; exact HID.out, hno.out, g, c, rfl, rfl⟩⟩
      · have hbe : (x.id == id) = false := by simpa using hid
        have HNO := Lib.hid (show ∀ j (hj : j < h.ts.length), j < k + 1 → h.ts[j].id ≠ id from fun j hj h1 => by
          by_cases e : j = k
          · subst e; rw [← HX.out]; exact hid
          · exact hno.out j hj (by omega))
        clear hid hno
        go_wp2
        go_roundw
        case rel => exact ⟨k + 1, by omega, by go_num, trivial, HNO⟩
        case measure => simp [intOf]; omega
    · have HNO := Lib.hid (show ∀ i (hi : i < h.ts.length), h.ts[i].id ≠ id from fun i hi => hno.out i hi (by omega))
      have hk2 : (h.ts.length : Int) ≤ k := by omega
      clear hlt hno
      go_wp2
      go_returns
      exact ⟨rfl, none, rfl, .inl ⟨rfl, HNO.out⟩⟩

theorem trkAt.find2 {I : Img} {M : List Res} {w : World} {p : Nat} {h : Ho} {vM vT vS : Value} {id : Int} {r : Option Addr} (hm : trkAt h vT id r) (hst : St I (row 47 4 vT h.ts.length (flat trkC h.ts) :: bk p 66 #[vM, vT, vS, .int .i64 h.lm, .int .i64 h.li] :: M) w) :
    (trk? h id = none ∧ r = none) ∨ ∃ t g o, trk? h id = some t ∧ r = some ⟨g, o, none⟩ ∧ g < w.heap.size ∧ ∀ j, j < 4 → w.cell? ⟨g, o + j, none⟩ = (trkC t)[j]? := by
  rcases hm with ⟨rfl, hno⟩ | ⟨i, hi, hid, hno, g, c, rfl, rfl⟩
  · exact .inl ⟨find_none (key := Trk.id) hno, rfl⟩
  · obtain ⟨g', e, _, _, hg, hcell, _⟩ := flat_cell (f := trkC) (s := 4) (fun _ => rfl) hst (by omega) (by decide)
    injection e with e
    injection e with e
    subst e
    exact .inr ⟨h.ts[i], g, i * 4, find_first (key := Trk.id) hi hid hno, rfl, hg, fun j hj => hcell i hi j hj⟩

/-- whose track it is -/
def ownerS (h : Ho) (id : Int) : Int := match trk? h id with | some t => t.member | none => 0
theorem below_drewN {B : Nat} {a w : World} (h : Below B a w) (n : Nat) : Below B a (w.drewN n) := ⟨h.os, h.tape, h.output, h.size, h.block⟩
theorem trkAt.one {h : Ho} {vT : Value} {id : Int} {r r' : Option Addr} (a : trkAt h vT id r) (b : trkAt h vT id r') : r = r' := by
  rcases a with ⟨rfl, hno⟩ | ⟨i, hi, hid, hf, g, c, rfl, rfl⟩
  · rcases b with ⟨rfl, _⟩ | ⟨i, hi, hid, _⟩
    · rfl
    · exact absurd hid (hno i hi)
  · rcases b with ⟨rfl, hno⟩ | ⟨j, hj, hjd, hg, g2, c2, e, rfl⟩
    · exact absurd hid (hno i hi)
    · injection e with e _ _
      injection e with e
      injection e with e
      subst e
      rcases Nat.lt_trichotomy i j with h1 | h1 | h1
      · exact absurd hid (hg i hi h1)
      · rw [h1]
      · exact absurd hjd (hf j hj h1)
theorem trkAt_ex {I : Img} {M : List Res} {w : World} {h : Ho} {vT : Value} {A : Option Addr} {n c : Nat} (hv : vT = .slice A n c) (hst : St I (row 47 4 vT h.ts.length (flat trkC h.ts) :: M) w) (id : Int) : ∃ r, trkAt h vT id r := by
  subst hv
  rcases idx_ways (fun t : Trk => t.id == id) h.ts with ⟨_, hno⟩ | ⟨i, hi, _, h1, h2⟩
  · exact ⟨none, .inl ⟨rfl, fun i hi => by simpa using hno _ (List.getElem_mem hi)⟩⟩
  · obtain ⟨g, rfl, rfl, _⟩ := flat_cell (f := trkC) (s := 4) (fun _ => rfl) hst (by omega) (by decide)
    exact ⟨some ⟨g, i * 4, none⟩, .inr ⟨i, hi, by simpa using h1, fun j hj hji => by simpa using h2 j hj hji, g, c, rfl, rfl⟩⟩
set_option maxHeartbeats 2000000 in
theorem c36 (I : Img) (M : List Res) (w : World) (p q r : Nat) (h : Ho) (vM vT vS : Value) (x : Sb) (id : Int) (hst : St I (row 47 4 vT h.ts.length (flat trkC h.ts) :: bk p 66 #[vM, vT, vS, .int .i64 h.lm, .int .i64 h.li] :: M) w) (hl : h.ts.length ≤ 140737488351232)
    (hq : w.cell? ⟨q, 0, none⟩ = some (.int .i64 id)) (hr : w.cell? ⟨r, 0, none⟩ = some (.pointer (some ⟨p, 0, none⟩))) (hx : trk? h x.track ≠ none) :
    Calls Try.prog 36 #[.agg #[.int .i64 x.member, .int .i64 x.track, .int .i64 x.layer], .pointer (some ⟨q, 0, none⟩), .pointer (some ⟨r, 0, none⟩)] w fun e w' => e = .returned (.bool (x.member == id || ownerS h x.track == id)) ∧ Below w.heap.size w w' := by
  have hlt := cell_lt hq
  have hlt2 := cell_lt hr
  have hb := (Below.refl _ w).alloc (Nat.le_refl _) (.cells #[.int .i64 x.member, .int .i64 x.track, .int .i64 x.layer] 49)
  have hs1 := hst.below hb
  have hbk := (Blk.three (hst.alloc 49 #[.int .i64 x.member, .int .i64 x.track, .int .i64 x.layer]).head)
  obtain ⟨z0, z1, z2, _, _, _, z3⟩ := hbk
  have hq1 := (hb.cell (p := ⟨q, 0, none⟩) hlt).trans hq
  have hr1 := (hb.cell (p := ⟨r, 0, none⟩) hlt2).trans hr
  obtain ⟨A, c, hv⟩ := own_form (show w.ownsRow 0 47 4 vT _ _ from hst.head)
  obtain ⟨ra, hra⟩ := trkAt_ex hv hst x.track
  have HB := Lib.hid hb
  cases h1 : (x.member == id)
  · rcases hra.find2 hs1 with ⟨hf, _⟩ | ⟨t, g, o, hf, rfl, hg, hcell⟩
    · exact absurd hf hx
    have HO := Lib.hid (show ownerS h x.track = t.member by unfold ownerS; rw [hf])
    have z5 : (w.alloc (.cells #[.int .i64 x.member, .int .i64 x.track, .int .i64 x.layer] 49)).cell? ⟨g, o + 1, none⟩ = some (.int .i64 t.member) := hcell 1 (by decide)
    have HC := Lib.hid (fun n => (trackC2 I M _ p h vM vT vS x.track (hs1.drewN n) hl).mono (R' := fun e w' => e = .returned (.pointer (some ⟨g, o, none⟩)) ∧ w' = _) fun e w' ⟨h1, r', h2, h3⟩ => ⟨by rw [h2, hra.one h3], h1.symm⟩)
    clear hst hb hs1 hq hr hra hcell hf hx hv
    go_enter Try.func36, Try.ntmps36
    go_upto_region 1 with fail
    go_quiet ((go_at_call 37; with_reducible exact Calls.quiet_of_same (HC.out _)))
    go_wp2
    go_returns
    exact ⟨by rw [HO.out]; rfl, below_drewN HB.out _⟩
  · clear hst hb hs1 hq hr hra hx hv
    go_enter Try.func36, Try.ntmps36
    go_upto_region 1 with fail
    go_quiet (fail)
    go_wp2
    go_returns
    exact ⟨rfl, below_drewN HB.out _⟩
set_option maxHeartbeats 1000000 in
theorem anyTC (I : Img) (M : List Res) (w : World) (A : Option Addr) (c k : Nat) (cap : Array Value) (l : List Trk) (p : Trk → Bool) (eg : ∀ args w, (callFunc k args).run Try.prog w = .ok (.enter k args) w)
    (hp : ∀ (g : Nat) (cur : Array Value) (W : World), St I (bk g 47 cur :: M) W → ∀ x ∈ l, Calls Try.prog k (#[.agg #[.int .i64 x.id, .int .i64 x.member, .string x.mid, .int .i64 x.kind]] ++ cap) W (fun e w' => e = .returned (.bool (p x)) ∧ Below W.heap.size W w'))
    (hst : St I (row 47 4 (.slice A l.length c) l.length (flat trkC l) :: M) w) (hl : l.length ≤ 1000000) :
    Calls Try.prog 46 #[.slice A l.length c, .func (.func k) #[] cap] w fun e w' => e = .returned (.bool (l.any p)) ∧ St I (row 47 4 (.slice A l.length c) l.length (flat trkC l) :: M) w' := by
  by_cases h0 : l = []
  · subst h0
    have HST := Lib.hid hst
    clear hst hp eg
    go_enter Try.func46, Try.ntmps46
    go_wp2_with (go_at_call 54; refine (idxT0 _ A c _).mono ?_; rintro e w2 ⟨rfl, hw2⟩; subst w2)
    go_returns
    exact ⟨rfl, HST.out⟩
  have hpos : 0 < l.length := List.length_pos_iff.2 h0
  obtain ⟨g, cur, rfl, _, hlc, hcm, hcs, hct, hs⟩ := hst.rowBk (by rw [flat_len (s := 4) (fun _ => rfl)]; omega)
  have hix := idxTC I M w g c k cur cap l p eg (fun cur W h x hx => hp g cur W h x hx) hs hct hl
  have HC := Lib.hid (And.intro hcs hct)
  have HA := Lib.hid (idx_any p l)
  clear hst hp eg hs hcs hct h0
  obtain ⟨iv, hiv⟩ : ∃ iv, iv = idx p l := ⟨_, rfl⟩
  rw [← hiv] at hix HA
  clear hiv
  have hb : decide (0 ≤ iv) = l.any p := HA.out
  clear HA
  by_cases hi : 0 ≤ iv
  · rw [decide_eq_true hi] at hb
    go_enter Try.func46, Try.ntmps46
    go_wp2_with (go_at_call 54; refine hix.mono ?_; clear hix; rintro e w2 ⟨rfl, hs2⟩; have HS2 := Lib.hid hs2; clear hs2)
    go_returns
    exact ⟨ret_eq (by rw [← hb]; first | rfl | (simp; omega)), HS2.out.bkRow hlc hcm HC.out.1 HC.out.2⟩
  · rw [decide_eq_false hi] at hb
    have hi2 : iv < 0 := by omega
    go_enter Try.func46, Try.ntmps46
    go_wp2_with (go_at_call 54; refine hix.mono ?_; clear hix; rintro e w2 ⟨rfl, hs2⟩; have HS2 := Lib.hid hs2; clear hs2)
    go_returns
    exact ⟨ret_eq (by rw [← hb]; first | rfl | (simp; omega)), HS2.out.bkRow hlc hcm HC.out.1 HC.out.2⟩

end Go.Proofs.Ytbaobonlolbnpaa
