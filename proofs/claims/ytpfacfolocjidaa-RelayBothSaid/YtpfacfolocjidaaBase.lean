import Derived.Test.YtpfacfolocjidaaRows
import Derived.WalkKit
import Derived.WalkSpells
import Derived.WalkLawsBesides
import Derived.Deep.QuietTactic
import Derived.BigQuiet
import Derived.Lib.Hide
import Derived.Maps.AppendAt
namespace Go.Proofs.Ytpfacfolocjidaa
open Go.RowKit

abbrev Ch := Int × ByteArray
def chv (cs : List Ch) : List Value := cs.flatMap fun c => [.int .u16 c.1, .string c.2]
theorem chv_len (cs : List Ch) : (chv cs).length = cs.length * 2 := by
  induction cs with
  | nil => rfl
  | cons c r ih => simp only [chv, List.flatMap_cons, List.length_append, List.length_cons, List.length_nil] at *; omega
theorem chv_get0 (cs : List Ch) : ∀ k (h : k < cs.length), (chv cs)[k * 2]? = some (.int .u16 cs[k].1) := by
  induction cs with
  | nil => intro k h; simp at h
  | cons c r ih =>
    intro k h
    match k with
    | 0 => rfl
    | k + 1 =>
      have := ih k (by simp at h; omega)
      simp only [chv, List.flatMap_cons, List.getElem_cons_succ] at *
      rw [show (k + 1) * 2 = k * 2 + 1 + 1 from by omega]
      simpa using this
theorem chv_get1 (cs : List Ch) : ∀ k (h : k < cs.length), (chv cs)[k * 2 + 1]? = some (.string cs[k].2) := by
  induction cs with
  | nil => intro k h; simp at h
  | cons c r ih =>
    intro k h
    match k with
    | 0 => rfl
    | k + 1 =>
      have := ih k (by simp at h; omega)
      simp only [chv, List.flatMap_cons, List.getElem_cons_succ] at *
      rw [show (k + 1) * 2 + 1 = k * 2 + 1 + 1 + 1 from by omega]
      simpa using this

/-- the channels' row as it is read -/
def RowAt (w : World) (A : Option Addr) (cs : List Ch) : Prop :=
  0 < cs.length → ∃ g, A = some ⟨g, 0, none⟩ ∧ g < w.heap.size ∧ ∀ k (h : k < cs.length), w.cell? ⟨g, k * 2, none⟩ = some (.int .u16 cs[k].1) ∧ w.cell? ⟨g, k * 2 + 1, none⟩ = some (.string cs[k].2)
theorem RowAt.below {w w' : World} {A : Option Addr} {cs : List Ch} {B : Nat} (h : RowAt w A cs) (hb : Below B w w') (hB : w.heap.size ≤ B) : RowAt w' A cs := by
  intro h0
  obtain ⟨g, e, hg, hc⟩ := h h0
  refine ⟨g, e, by have := hb.size; omega, fun k hk => ?_⟩
  rw [hb.cell (p := ⟨g, k * 2, none⟩) (by exact Nat.lt_of_lt_of_le hg hB), hb.cell (p := ⟨g, k * 2 + 1, none⟩) (by exact Nat.lt_of_lt_of_le hg hB)]
  exact hc k hk
theorem add0 (g j : Nat) : (⟨g, 0, none⟩ : Addr).add j = ⟨g, j, none⟩ := by unfold Addr.add; split <;> simp_all
theorem RowAt.of_own {w : World} {base e n c : Nat} {A : Option Addr} {cs : List Ch} (h : w.ownsRow base e 2 (.slice A n c) cs.length (chv cs)) : RowAt w A cs := by
  intro h0
  rcases h.2 with ⟨e, hn⟩ | ⟨g, cap, cur, hv, _, hg, _⟩
  · omega
  · injection hv with hA _ _
    subst hA
    refine ⟨g, rfl, (Array.getElem?_eq_some_iff.1 hg).1, fun k hk => ?_⟩
    have h2 := h.cells (g := g) rfl
    have a0 := h2 _ _ (chv_get0 cs k hk)
    have a1 := h2 _ _ (chv_get1 cs k hk)
    rw [add0] at a0 a1
    exact ⟨a0, a1⟩

/-- the first channel of a stream -/
def idx (s : Int) (cs : List Ch) : Int := match cs.findIdx? (fun c => c.1 == s) with | some i => i | none => -1
theorem idx_hit {s : Int} {cs : List Ch} {k : Nat} (hk : k < cs.length) (hn : ∀ m (h : m < cs.length), m < k → cs[m].1 ≠ s) (he : (cs[k].1 == s) = true) : (k : Int) = idx s cs := by
  have : cs.findIdx? (fun c => c.1 == s) = some k := by
    rw [List.findIdx?_eq_some_iff_getElem]
    exact ⟨hk, by simpa using he, fun j hj => by simpa using hn j (by omega) hj⟩
  simp [idx, this]
theorem idx_miss {s : Int} {cs : List Ch} (hn : ∀ m (h : m < cs.length), cs[m].1 ≠ s) : -1 = idx s cs := by
  have : cs.findIdx? (fun c => c.1 == s) = none := by
    rw [List.findIdx?_eq_none_iff]
    intro x hx
    obtain ⟨i, hi, rfl⟩ := List.getElem_of_mem hx
    simpa using hn i hi
  simp [idx, this]
theorem ret_int {k : IntKind} {a b : Int} (h : a = b) : Ending.returned (.int k a) = .returned (.int k b) := by rw [h]

set_option maxHeartbeats 400000 in
theorem c37 (s n : Int) (x : ByteArray) (p : Nat) (w : World) (hc : w.cell? ⟨p, 0, none⟩ = some (.int .u16 s)) (hp : p < w.heap.size) :
    Calls Try.prog 37 #[.agg #[.int .u16 n, .string x], .pointer (some ⟨p, 0, none⟩)] w fun e w' => e = .returned (.bool (n == s)) ∧ Below w.heap.size w w' := by
  go_enter Try.func37, Try.ntmps37
  go_wp2
  go_ret
  exact ⟨rfl, (Below.refl _ _).alloc (Nat.le_refl _) _⟩

set_option maxHeartbeats 400000 in
theorem c36 (s : Int) (p cap : Nat) (A : Option Addr) (cs : List Ch) (w : World) (hc : w.cell? ⟨p, 0, none⟩ = some (.int .u16 s)) (hp : p < w.heap.size)
    (hm : cs.length ≤ 8) (hr : RowAt w A cs) :
    Calls Try.prog 36 #[.slice A cs.length cap, .func (.func 37) #[] #[.pointer (some ⟨p, 0, none⟩)]] w fun e w' => e = .returned (.int .i64 (idx s cs)) ∧ Below w.heap.size w w' := by
  go_enter Try.func36, Try.ntmps36
  go_wp2
  go_loopw [8, 5] (fun i _ wr => ∃ k : Nat, k ≤ cs.length ∧ i = .int .i64 k ∧ (∀ m (h : m < cs.length), m < k → cs[m].1 ≠ s) ∧ Below w.heap.size w wr) (fun i _ _ => cs.length - (intOf i).toNat)
  case atStart => exact ⟨0, Nat.zero_le _, rfl, by omega, Below.refl _ _⟩
  case round =>
    obtain ⟨k, hk, rfl, hno, hb⟩ := hrel
    have Hb := Lib.hid hb
    have Hno := Lib.hid hno
    have hcx : wr.cell? ⟨p, 0, none⟩ = some (.int .u16 s) := (hb.cell (by exact hp)).trans hc
    have hpx : p < wr.heap.size := by have := hb.size; omega
    by_cases hlt : k < cs.length
    · obtain ⟨g, rfl, hg, hcell⟩ := hr.below hb (Nat.le_refl _) (by omega)
      obtain ⟨hz0, hz1⟩ := hcell k hlt
      clear hcell hr hc hp hno hb
      go_wp2_with (go_at_call 37; refine (c37 _ _ _ _ _ (by assumption) (by assumption)).mono ?_; rintro e w' ⟨rfl, hb'⟩)
      · have he : (cs[k].1 == s) = true := by assumption
        go_ret
        exact ⟨ret_int (idx_hit hlt Hno.out he), Hb.out.trans (hb'.mono Hb.out.size)⟩
      · have he : (cs[k].1 == s) = false := by assumption
        go_roundw
        case rel => exact ⟨k + 1, by omega, by go_num, fun m h hm => by rcases Nat.lt_succ_iff_lt_or_eq.1 hm with h1 | rfl; exact Hno.out m h h1; simpa using he, Hb.out.trans (hb'.mono Hb.out.size)⟩
        case measure => simp [intOf]; omega
    · go_wp2
      go_ret
      exact ⟨ret_int (idx_miss (fun m h => Hno.out m h (by omega))), Hb.out⟩
end Go.Proofs.Ytpfacfolocjidaa
