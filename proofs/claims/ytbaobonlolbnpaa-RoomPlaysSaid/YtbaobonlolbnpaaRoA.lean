/- room.House: its words; member, track, Room, Rights. -/
import Derived.Test.YtbaobonlolbnpaaRd
import Derived.Test.YtbaobonlolbnpaaMo
namespace Go.Proofs.Ytbaobonlolbnpaa
open Go.RowKit
set_option linter.unusedSimpArgs false

/-- a row that is owned, whatever stands in it: where it lies -/
theorem St.rowCells {I : Img} {M : List Res} {w : World} {e s n n' c : Nat} {A : Option Addr} {xs : List Value} (h : St I (row e s (.slice A n' c) n xs :: M) w) (h0 : 0 < xs.length) :
    ∃ g, A = some ⟨g, 0, none⟩ ∧ n' = n ∧ n ≤ c ∧ g < w.heap.size ∧ (∀ k (hk : k < xs.length), w.cell? ⟨g, k, none⟩ = some xs[k]) ∧ (∀ k, w.frozen? ⟨g, k, none⟩ = false) := by
  have ho : w.ownsRow 0 e s (.slice A n' c) n xs := h.head
  have hcap := (own_cap ho).2
  rcases ho.2 with ⟨hv, hn⟩ | ⟨g, cap, cur, hv, _, hg, _⟩
  · have := ho.1; rw [hn] at this; omega
  · have hv' := hv
    injection hv with hA hn _
    subst hA hn
    refine ⟨g, rfl, rfl, hcap, (Array.getElem?_eq_some_iff.1 hg).1, fun k hk => ?_, fun k => frozen_of_row w g k cur e hg⟩
    have := ho.cells (g := g) rfl k xs[k] (by simp [hk])
    rw [add_at, Nat.zero_add] at this
    exact this
structure Mem where
  id : Int
  room : ByteArray
  user : ByteArray
  til : Int
  rights : Int
structure Trk where
  id : Int
  member : Int
  mid : ByteArray
  kind : Int
structure Sb where
  member : Int
  track : Int
  layer : Int
abbrev memC (m : Mem) : List Value := [.int .i64 m.id, .string m.room, .string m.user, .int .i64 m.til, .int .i64 m.rights]
abbrev trkC (t : Trk) : List Value := [.int .i64 t.id, .int .i64 t.member, .string t.mid, .int .i64 t.kind]
abbrev sbC (s : Sb) : List Value := [.int .i64 s.member, .int .i64 s.track, .int .i64 s.layer]
def flat {α : Type} (f : α → List Value) : List α → List Value
  | [] => []
  | x :: r => f x ++ flat f r
theorem flat_append {α : Type} (f : α → List Value) (a b : List α) : flat f (a ++ b) = flat f a ++ flat f b := by
  induction a with
  | nil => rfl
  | cons x r ih => simp only [List.cons_append, flat, ih, List.append_assoc]
theorem flat_len {α : Type} {f : α → List Value} {s : Nat} (hs : ∀ x, (f x).length = s) (l : List α) : (flat f l).length = l.length * s := by
  induction l with
  | nil => simp [flat]
  | cons x r ih => simp only [flat, List.length_append, hs, ih, List.length_cons, Nat.add_mul, Nat.one_mul]; omega
theorem flat_at {α : Type} {f : α → List Value} {s : Nat} (hs : ∀ x, (f x).length = s) (l : List α) : ∀ (i j : Nat) (h : i < l.length) (_ : j < s), (flat f l)[i * s + j]? = (f l[i])[j]? := by
  induction l with
  | nil => intro i j h; cases h
  | cons x r ih =>
    intro i j h hj
    match i, h with
    | 0, _ =>
      rw [Nat.zero_mul, Nat.zero_add, flat, List.getElem?_append_left (by rw [hs]; exact hj)]
      rfl
    | i + 1, h =>
      have e1 : (i + 1) * s + j = s + (i * s + j) := by rw [Nat.add_mul, Nat.one_mul]; omega
      rw [e1, flat, List.getElem?_append_right (by rw [hs]; omega), hs, Nat.add_sub_cancel_left]
      exact ih i j (by simpa using h) hj
theorem flat_cell {α : Type} {f : α → List Value} {s : Nat} (hs : ∀ x, (f x).length = s) {I : Img} {M : List Res} {w : World} {e n' c : Nat} {A : Option Addr} {l : List α} (h : St I (row e s (.slice A n' c) l.length (flat f l) :: M) w) (h0 : 0 < l.length) (h1 : 0 < s) :
    ∃ g, A = some ⟨g, 0, none⟩ ∧ n' = l.length ∧ l.length ≤ c ∧ g < w.heap.size ∧ (∀ i (hi : i < l.length) j, j < s → w.cell? ⟨g, i * s + j, none⟩ = (f l[i])[j]?) ∧ (∀ k, w.frozen? ⟨g, k, none⟩ = false) := by
  have hl := flat_len hs l
  obtain ⟨g, hA, hn, hc, hg, hcell, hf⟩ := St.rowCells h (by rw [hl]; exact Nat.mul_pos h0 h1)
  refine ⟨g, hA, hn, hc, hg, fun i hi j hj => ?_, hf⟩
  have hlt : i * s + j < (flat f l).length := by
    rw [hl]
    have := Nat.mul_le_mul_right s (show i + 1 ≤ l.length by omega)
    rw [Nat.add_mul, Nat.one_mul] at this
    omega
  rw [hcell _ hlt, ← flat_at hs l i j hi hj, List.getElem?_eq_getElem hlt]
/-- a house -/
structure Ho where
  ms : List Mem
  ts : List Trk
  ss : List Sb
  lm : Int
  li : Int
abbrev hou (p : Nat) (h : Ho) (vM vT vS : Value) (M : List Res) : List Res := row 73 5 vM h.ms.length (flat memC h.ms) :: row 47 4 vT h.ts.length (flat trkC h.ts) :: row 49 3 vS h.ss.length (flat sbC h.ss) :: bk p 66 #[vM, vT, vS, .int .i64 h.lm, .int .i64 h.li] :: M
/-- where a member stands -/
def memAt (h : Ho) (vM : Value) (id : Int) (r : Option Addr) : Prop :=
  (r = none ∧ ∀ i (hi : i < h.ms.length), h.ms[i].id ≠ id) ∨ (∃ i, ∃ hi : i < h.ms.length, h.ms[i].id = id ∧ (∀ j (hj : j < h.ms.length), j < i → h.ms[j].id ≠ id) ∧ ∃ g c, vM = .slice (some ⟨g, 0, none⟩) h.ms.length c ∧ r = some ⟨g, i * 5, none⟩)
def trkAt (h : Ho) (vT : Value) (id : Int) (r : Option Addr) : Prop :=
  (r = none ∧ ∀ i (hi : i < h.ts.length), h.ts[i].id ≠ id) ∨ (∃ i, ∃ hi : i < h.ts.length, h.ts[i].id = id ∧ (∀ j (hj : j < h.ts.length), j < i → h.ts[j].id ≠ id) ∧ ∃ g c, vT = .slice (some ⟨g, 0, none⟩) h.ts.length c ∧ r = some ⟨g, i * 4, none⟩)
set_option maxHeartbeats 1000000 in
theorem memberC (I : Img) (M : List Res) (w : World) (p : Nat) (h : Ho) (vM vT vS : Value) (id : Int) (hst : St I (hou p h vM vT vS M) w) (hl : h.ms.length ≤ 140737488351232) :
    Calls Try.prog 34 #[.pointer (some ⟨p, 0, none⟩), .int .i64 id] w fun e w' => w = w' ∧ ∃ r, e = .returned (.pointer r) ∧ memAt h vM id r := by
  obtain ⟨hcP, _, hlP⟩ := Blk.all (hst.at 3 rfl)
  obtain ⟨A, c, rfl⟩ := own_form (show w.ownsRow 0 73 5 vM _ _ from hst.head)
  have HST := Lib.hid hst
  clear hst
  go_enter Try.func34, Try.ntmps34
  go_wp2
  go_loopw [13] (fun iv wr => ∃ k : Nat, k ≤ h.ms.length ∧ iv = .int .i64 k ∧ wr = w ∧ Hid (∀ j (hj : j < h.ms.length), j < k → h.ms[j].id ≠ id)) (fun iv _ => h.ms.length - (intOf iv).toNat)
  case atStart => exact ⟨0, by omega, rfl, rfl, fun j hj h => by omega⟩
  case round =>
    obtain ⟨k, hk, rfl, hwr, hno⟩ := hrel
    subst wr
    by_cases hlt : k < h.ms.length
    · obtain ⟨g, rfl, _, hcc, hg, hcell, _⟩ := flat_cell (f := memC) (s := 5) (fun _ => rfl) HST.out (by omega) (by decide)
      have z0 := hcell k hlt 0 (by decide)
      rw [Nat.add_zero] at z0
      obtain ⟨x, hx⟩ : ∃ x, x = h.ms[k] := ⟨_, rfl⟩
      rw [← hx] at z0
      have z0 : w.cell? ⟨g, k * 5, none⟩ = some (.int .i64 x.id) := z0
      have HX := Lib.hid hx
      clear hcell hx
      by_cases hid : x.id = id
      · have hbe : (x.id == id) = true := by simpa using hid
        have HID := Lib.hid hid
        clear hid
        go_wp2
        go_returns
        exact ⟨rfl, _, rfl, .inr ⟨k, hlt, by rw [← HX.out]; exact HID.out, hno.out, g, c, rfl, rfl⟩⟩
      · have hbe : (x.id == id) = false := by simpa using hid
        have HNO := Lib.hid (show ∀ j (hj : j < h.ms.length), j < k + 1 → h.ms[j].id ≠ id from fun j hj h1 => by
          by_cases e : j = k
          · subst e; rw [← HX.out]; exact hid
          · exact hno.out j hj (by omega))
        clear hid hno
        go_wp2
        go_roundw
        case rel => exact ⟨k + 1, by omega, by go_num, trivial, HNO⟩
        case measure => simp [intOf]; omega
    · have HNO := Lib.hid (show ∀ i (hi : i < h.ms.length), h.ms[i].id ≠ id from fun i hi => hno.out i hi (by omega))
      have hk2 : (h.ms.length : Int) ≤ k := by omega
      clear hlt hno
      go_wp2
      go_returns
      exact ⟨rfl, none, rfl, .inl ⟨rfl, HNO.out⟩⟩
set_option maxHeartbeats 1000000 in
theorem trackC (I : Img) (M : List Res) (w : World) (p : Nat) (h : Ho) (vM vT vS : Value) (id : Int) (hst : St I (hou p h vM vT vS M) w) (hl : h.ts.length ≤ 140737488351232) :
    Calls Try.prog 37 #[.pointer (some ⟨p, 0, none⟩), .int .i64 id] w fun e w' => w = w' ∧ ∃ r, e = .returned (.pointer r) ∧ trkAt h vT id r := by
  obtain ⟨hcP, _, hlP⟩ := Blk.all (hst.at 3 rfl)
  obtain ⟨A, c, rfl⟩ := own_form (show w.ownsRow 0 47 4 vT _ _ from hst.swap1.head)
  have HST := Lib.hid hst
  clear hst
  go_enter Try.func37, Try.ntmps37
  go_wp2
  go_loopw [11] (fun iv wr => ∃ k : Nat, k ≤ h.ts.length ∧ iv = .int .i64 k ∧ wr = w ∧ Hid (∀ j (hj : j < h.ts.length), j < k → h.ts[j].id ≠ id)) (fun iv _ => h.ts.length - (intOf iv).toNat)
  case atStart => exact ⟨0, by omega, rfl, rfl, fun j hj h => by omega⟩
  case round =>
    obtain ⟨k, hk, rfl, hwr, hno⟩ := hrel
    subst wr
    by_cases hlt : k < h.ts.length
    · obtain ⟨g, rfl, _, hcc, hg, hcell, _⟩ := flat_cell (f := trkC) (s := 4) (fun _ => rfl) HST.out.swap1 (by omega) (by decide)
      have z0 := hcell k hlt 0 (by decide)
      rw [Nat.add_zero] at z0
      obtain ⟨x, hx⟩ : ∃ x, x = h.ts[k] := ⟨_, rfl⟩
      rw [← hx] at z0
      have z0 : w.cell? ⟨g, k * 4, none⟩ = some (.int .i64 x.id) := z0
      have HX := Lib.hid hx
      clear hcell hx
      by_cases hid : x.id = id
      · have hbe : (x.id == id) = true := by simpa using hid
        have HID := Lib.hid hid
        clear hid
        go_wp2
        go_returns
        exact ⟨rfl, _, rfl, .inr ⟨k, hlt, by rw [← HX.out]; exact HID.out, hno.out, g, c, rfl, rfl⟩⟩
      · have hbe : (x.id == id) = false := by simpa using hid
        have HNO := Lib.hid (show ∀ j (hj : j < h.ts.length), j < k + 1 → h.ts[j].id ≠ id from fun j hj h1 => by
          by_cases e : j = k
          · subst e; rw [← HX.out]; exact hid
          · exact hno.out j hj (by omega))
        clear hid hno
        go_wp2
        go_roundw
        case rel => exact ⟨k + 1, by omega, by go_num, trivial, HNO⟩
        case measure => simp [intOf]; omega
    · have HNO := Lib.hid (show ∀ i (hi : i < h.ts.length), h.ts[i].id ≠ id from fun i hi => hno.out i hi (by omega))
      have hk2 : (h.ts.length : Int) ≤ k := by omega
      clear hlt hno
      go_wp2
      go_returns
      exact ⟨rfl, none, rfl, .inl ⟨rfl, HNO.out⟩⟩
/-- who bears a number -/
def mem? (h : Ho) (id : Int) : Option Mem := h.ms.find? (fun m => m.id == id)
def trk? (h : Ho) (id : Int) : Option Trk := h.ts.find? (fun t => t.id == id)
theorem find_first {α : Type} {key : α → Int} {l : List α} {id : Int} {i : Nat} (h : i < l.length) (hid : key l[i] = id) (hno : ∀ j (hj : j < l.length), j < i → key l[j] ≠ id) : l.find? (fun x => key x == id) = some l[i] := by
  rw [List.find?_eq_some_iff_getElem]
  refine ⟨by simpa using hid, i, h, rfl, fun j hj => ?_⟩
  have := hno j (by omega) hj
  simpa using this
theorem find_none {α : Type} {key : α → Int} {l : List α} {id : Int} (hno : ∀ j (hj : j < l.length), key l[j] ≠ id) : l.find? (fun x => key x == id) = none := by
  rw [List.find?_eq_none]
  intro x hx
  obtain ⟨j, hj, rfl⟩ := List.getElem_of_mem hx
  simpa using hno j hj
theorem memAt.find {I : Img} {M : List Res} {w : World} {p : Nat} {h : Ho} {vM vT vS : Value} {id : Int} {r : Option Addr} (hm : memAt h vM id r) (hst : St I (hou p h vM vT vS M) w) :
    (mem? h id = none ∧ r = none) ∨ ∃ m g o, mem? h id = some m ∧ r = some ⟨g, o, none⟩ ∧ g < w.heap.size ∧ ∀ j, j < 5 → w.cell? ⟨g, o + j, none⟩ = (memC m)[j]? := by
  rcases hm with ⟨rfl, hno⟩ | ⟨i, hi, hid, hno, g, c, rfl, rfl⟩
  · exact .inl ⟨find_none (key := Mem.id) hno, rfl⟩
  · obtain ⟨g', e, _, _, hg, hcell, _⟩ := flat_cell (f := memC) (s := 5) (fun _ => rfl) hst (by omega) (by decide)
    injection e with e
    injection e with e
    subst e
    exact .inr ⟨h.ms[i], g, i * 5, find_first (key := Mem.id) hi hid hno, rfl, hg, fun j hj => hcell i hi j hj⟩
theorem trkAt.find {I : Img} {M : List Res} {w : World} {p : Nat} {h : Ho} {vM vT vS : Value} {id : Int} {r : Option Addr} (hm : trkAt h vT id r) (hst : St I (hou p h vM vT vS M) w) :
    (trk? h id = none ∧ r = none) ∨ ∃ t g o, trk? h id = some t ∧ r = some ⟨g, o, none⟩ ∧ g < w.heap.size ∧ ∀ j, j < 4 → w.cell? ⟨g, o + j, none⟩ = (trkC t)[j]? := by
  rcases hm with ⟨rfl, hno⟩ | ⟨i, hi, hid, hno, g, c, rfl, rfl⟩
  · exact .inl ⟨find_none (key := Trk.id) hno, rfl⟩
  · obtain ⟨g', e, _, _, hg, hcell, _⟩ := flat_cell (f := trkC) (s := 4) (fun _ => rfl) hst.swap1 (by omega) (by decide)
    injection e with e
    injection e with e
    subst e
    exact .inr ⟨h.ts[i], g, i * 4, find_first (key := Trk.id) hi hid hno, rfl, hg, fun j hj => hcell i hi j hj⟩
def roomS (h : Ho) (id : Int) : ByteArray × Int := match mem? h id with | some m => (m.room, 0) | none => (⟨#[]⟩, 7)
def rightsS (h : Ho) (id : Int) : Int := match mem? h id with | some m => m.rights | none => 0
set_option maxHeartbeats 1000000 in
theorem roomC (I : Img) (M : List Res) (w : World) (p : Nat) (h : Ho) (vM vT vS : Value) (id : Int) (hst : St I (hou p h vM vT vS M) w) (hl : h.ms.length ≤ 140737488351232) :
    Calls Try.prog 14 #[.pointer (some ⟨p, 0, none⟩), .int .i64 id] w fun e w' => w = w' ∧ e = .returned (.tuple #[.string (roomS h id).1, .int .i64 (roomS h id).2]) := by
  have hm := memberC I M w p h vM vT vS id hst hl
  have HST := Lib.hid hst
  clear hst
  go_enter Try.func14, Try.ntmps14
  go_wp2_with fail
  refine hm.mono ?_
  rintro e w' ⟨rfl, r, rfl, hr⟩
  rcases hr.find HST.out with ⟨hf, rfl⟩ | ⟨m, g, o, hf, rfl, hg, hcell⟩
  · have HE := Lib.hid (show roomS h id = (⟨#[]⟩, 7) by unfold roomS; rw [hf])
    clear hm hr hf
    go_wp2
    go_returns
    exact ⟨rfl, ret_eq (by rw [HE.out]; rfl)⟩
  · have HE := Lib.hid (show roomS h id = (m.room, 0) by unfold roomS; rw [hf])
    have z1 : w.cell? ⟨g, o + 1, none⟩ = some (.string m.room) := hcell 1 (by decide)
    clear hm hr hf hcell
    go_wp2
    go_returns
    exact ⟨rfl, ret_eq (by rw [HE.out]; rfl)⟩
set_option maxHeartbeats 1000000 in
theorem rightsC (I : Img) (M : List Res) (w : World) (p : Nat) (h : Ho) (vM vT vS : Value) (id : Int) (hst : St I (hou p h vM vT vS M) w) (hl : h.ms.length ≤ 140737488351232) :
    Calls Try.prog 18 #[.pointer (some ⟨p, 0, none⟩), .int .i64 id] w fun e w' => w = w' ∧ e = .returned (.int .i64 (rightsS h id)) := by
  have hm := memberC I M w p h vM vT vS id hst hl
  have HST := Lib.hid hst
  clear hst
  go_enter Try.func18, Try.ntmps18
  go_wp2_with fail
  refine hm.mono ?_
  rintro e w' ⟨rfl, r, rfl, hr⟩
  rcases hr.find HST.out with ⟨hf, rfl⟩ | ⟨m, g, o, hf, rfl, hg, hcell⟩
  · have HE := Lib.hid (show rightsS h id = 0 by unfold rightsS; rw [hf])
    clear hm hr hf
    go_wp2
    go_returns
    exact ⟨rfl, ret_eq (by rw [HE.out]; rfl)⟩
  · have HE := Lib.hid (show rightsS h id = m.rights by unfold rightsS; rw [hf])
    have z4 : w.cell? ⟨g, o + 4, none⟩ = some (.int .i64 m.rights) := hcell 4 (by decide)
    clear hm hr hf hcell
    go_wp2
    go_returns
    exact ⟨rfl, ret_eq (by rw [HE.out]; rfl)⟩
end Go.Proofs.Ytbaobonlolbnpaa
