import Derived.Test.YtpfacfolocjidaaBase
import Derived.Laws.OwnMore
namespace Go.Proofs.Ytpfacfolocjidaa
open Go.RowKit

/-- a book: its block, its row -/
structure Bk (T E : TypeId) (w : World) (base b : Nat) (v : Value) (cs : List Ch) : Prop where
  blk : w.heap[b]? = some (.cells #[v] T (0, 0))
  lo : base ≤ b
  own : w.ownsRow base E 2 v cs.length (chv cs)
section
variable {T E : TypeId} {w : World} {base b : Nat} {v : Value} {cs : List Ch}
theorem Bk.lt (h : Bk T E w base b v cs) : b < w.heap.size := (Array.getElem?_eq_some_iff.1 h.blk).1
theorem Bk.cell (h : Bk T E w base b v cs) : w.cell? ⟨b, 0, none⟩ = some v := by
  have := h.blk
  simp [World.cell?, this]
theorem Bk.frozen (h : Bk T E w base b v cs) : w.frozen? ⟨b, 0, none⟩ = false := by
  have := h.blk
  simp [World.frozen?, this]
theorem Bk.form (h : Bk T E w base b v cs) : ∃ A cap, v = .slice A cs.length cap ∧ RowAt w A cs := by
  rcases h.own.2 with ⟨rfl, hn⟩ | ⟨g, cap, cur, rfl, _⟩
  · exact ⟨none, 0, by rw [hn], fun h0 => by omega⟩
  · exact ⟨_, cap, rfl, RowAt.of_own h.own⟩
theorem Bk.below {w' : World} {B : Nat} (h : Bk T E w base b v cs) (hb : Below B w w') (hB : w.heap.size ≤ B) : Bk T E w' base b v cs :=
  ⟨(hb.block b (by have := h.lt; omega)).trans h.blk, h.lo, h.own.kept (row := none) ⟨hb.os, hb.tape, hb.output, hb.size, fun k hk _ => hb.block k (by omega)⟩ (by cases v.ownBlock <;> simp)⟩
end

set_option maxHeartbeats 400000 in
theorem c30 (s : Int) (base b : Nat) (v : Value) (cs : List Ch) (w : World) (hm : cs.length ≤ 8) (hk : Bk 59 74 w base b v cs) :
    Calls Try.prog 30 #[.pointer (some ⟨b, 0, none⟩), .int .u16 s] w fun e w' => e = .returned (.int .i64 (idx s cs)) ∧ Below w.heap.size w w' := by
  obtain ⟨A, cap, rfl, hr⟩ := hk.form
  have hc := hk.cell
  have hlt := hk.lt
  have hr1 : RowAt (w.alloc (.cells #[.int .u16 s] 22)) A cs := hr.below ((Below.refl w.heap.size w).alloc (Nat.le_refl _) _) (Nat.le_refl _)
  go_enter Try.func30, Try.ntmps30
  go_wp2_with (go_at_call 36; refine (c36 s _ _ _ _ _ ?_ ?_ hm (by exact hr1)).mono ?_; simp; simp; rintro e w' ⟨rfl, hb'⟩)
  go_ret
  exact ⟨rfl, (Below.refl _ _).alloc (Nat.le_refl _) _ |>.trans (hb'.mono (by simp))⟩

/-- the stream of a label's channel -/
def fnd (x : ByteArray) (cs : List Ch) : Option Int := (cs.find? fun c => c.2.toList == x.toList).map (·.1)
theorem fnd_hit {x : ByteArray} {cs : List Ch} {k : Nat} (hk : k < cs.length) (hn : ∀ m (h : m < cs.length), m < k → (cs[m].2.toList == x.toList) = false) (he : (cs[k].2.toList == x.toList) = true) : fnd x cs = some cs[k].1 := by
  have : cs.find? (fun c => c.2.toList == x.toList) = some cs[k] := by
    rw [List.find?_eq_some_iff_getElem]
    exact ⟨he, k, hk, rfl, fun j hj => by rw [hn j (by omega) hj]; rfl⟩
  simp [fnd, this]
theorem fnd_miss {x : ByteArray} {cs : List Ch} (hn : ∀ m (h : m < cs.length), (cs[m].2.toList == x.toList) = false) : fnd x cs = none := by
  have : cs.find? (fun c => c.2.toList == x.toList) = none := by
    rw [List.find?_eq_none]
    intro y hy
    obtain ⟨i, hi, rfl⟩ := List.getElem_of_mem hy
    rw [hn i hi]; simp
  simp [fnd, this]

def FndRet (x : ByteArray) (cs : List Ch) (w : World) (e : Ending) (w' : World) : Prop :=
  e = .returned (.tuple #[.int .u16 ((fnd x cs).getD 0), .bool (fnd x cs).isSome]) ∧ Below w.heap.size w w'

set_option maxHeartbeats 400000 in
theorem c19 (x : ByteArray) (base b : Nat) (v : Value) (cs : List Ch) (w : World) (hm : cs.length ≤ 8) (hk : Bk 59 74 w base b v cs) :
    Calls Try.prog 19 #[.pointer (some ⟨b, 0, none⟩), .string x] w (FndRet x cs w) := by
  obtain ⟨A, cap, rfl, hr⟩ := hk.form
  have hc := hk.cell
  clear hk
  go_enter Try.func19, Try.ntmps19
  go_wp2
  go_loopw [15] (fun i wr => ∃ k : Nat, k ≤ cs.length ∧ i = .int .i64 k ∧ (∀ m (h : m < cs.length), m < k → (cs[m].2.toList == x.toList) = false) ∧ Below w.heap.size w wr) (fun i _ => cs.length - (intOf i).toNat)
  case atStart => exact ⟨0, Nat.zero_le _, rfl, by omega, Below.refl _ _⟩
  case round =>
    obtain ⟨k, hk, rfl, hno, hb⟩ := hrel
    have Hb := Lib.hid hb
    have Hno := Lib.hid hno
    by_cases hlt : k < cs.length
    · obtain ⟨g, rfl, hg, hcell⟩ := hr.below hb (Nat.le_refl _) (by omega)
      obtain ⟨hz0, hz1⟩ := hcell k hlt
      clear hcell hno hb hr
      go_wp2
      · have he : (cs[k].2.toList == x.toList) = true := by assumption
        go_ret2
        exact ⟨by rw [fnd_hit hlt Hno.out he]; rfl, Hb.out.alloc Hb.out.size _⟩
      · have he : (cs[k].2.toList == x.toList) = false := by assumption
        go_roundw
        case rel => exact ⟨k + 1, by omega, by go_num, fun m h hm => by rcases Nat.lt_succ_iff_lt_or_eq.1 hm with h1 | rfl; exact Hno.out m h h1; exact he, Hb.out.alloc Hb.out.size _⟩
        case measure => simp [intOf]; omega
    · go_wp2
      go_ret2
      exact ⟨by rw [fnd_miss fun m h => Hno.out m h (by omega)]; rfl, Hb.out⟩

end Go.Proofs.Ytpfacfolocjidaa
