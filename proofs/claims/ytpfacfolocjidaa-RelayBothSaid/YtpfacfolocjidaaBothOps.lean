/- arguments, opened: numbers, texts. -/
import Derived.Test.YtpfacfolocjidaaBoth
import Derived.Test.YtpfacfolocjidaaOpenB
import Derived.SliceStrings
namespace Go.Proofs.Ytpfacfolocjidaa
open Go.ChangeShapes Go.WideShapes Go.ChangeAt Go.RowKit Go.Joins

section
variable {H : Type} {enc : TypeId × Value → H} {P : Program} {w : World} {base : Nat} {spare : Nat → Bool} {held : Bool}
theorem open_nums {t e : TypeId} {fuel : Nat} {cs : List Value} {x : DataW H × List MemPlace} (ht : P.underlying t = some (.slice e)) (he : P.underlying e = some (.int .u16)) (hc : P.cellsOf e = 1) (hy : P.bytesOf e = 2)
    (h : DataW.trod enc P w base spare held fuel t cs = some x) :
    ∃ (A : Option Addr) (c : Nat) (zs : List Int), cs = [.slice A zs.length c] ∧ NumsAt w A zs ∧ (Fits P t x.1 → zs.length ≤ 140737488351232) := by
  rcases open_ints ht he hc h with ⟨rfl, rfl⟩ | ⟨a, len, cap, zs, rfl, _, hl, _, hz, rfl, hcell, hwf⟩
  · exact ⟨none, 0, [], rfl, fun h0 => absurd h0 (by simp), fun _ => Nat.zero_le _⟩
  · have hzl : len ≤ zs.length := by rw [hz]; split <;> omega
    have hlen : (zs.take len).length = len := by rw [List.length_take]; omega
    refine ⟨some a, cap, zs.take len, by rw [hlen], ?_, fun hf => ?_⟩
    · intro h0
      rw [hlen] at h0
      have h00 := hcell 0 (by omega)
      have hsp : a.spot = none := by simpa [Addr.add] using World.cell?_spot h00
      obtain ⟨g, o, spot⟩ := a
      simp only at hsp
      subst hsp
      have hb := World.block_lt_of_cell? _ _ h00
      rw [add_at] at hb
      refine ⟨g, o, rfl, hb, fun j hj => ?_⟩
      have hj' : j < zs.length := by rw [hlen] at hj; omega
      have hcj := hcell j hj'
      rw [add_at] at hcj
      rw [hcj]
      simp [hj']
    · have := (fits_slice ht hf).1
      rw [hy] at this
      simp only [lits, List.length_map, List.length_take, List.length_drop, reachBytes] at this
      rw [hlen]
      omega
theorem open_texts {t e : TypeId} {fuel : Nat} {cs : List Value} {x : DataW H × List MemPlace} (ht : P.underlying t = some (.slice e)) (he : P.underlying e = some .string) (hc : P.cellsOf e = 1) (hy : P.bytesOf e = 16)
    (h : DataW.trod enc P w base spare held fuel t cs = some x) :
    ∃ (A : Option Addr) (c : Nat) (ss : List ByteArray), cs = [.slice A ss.length c] ∧ TextsAt w A ss ∧ (Fits P t x.1 → ss.length ≤ 140737488351232) := by
  rcases open_strings ht he hc h with ⟨rfl, rfl⟩ | ⟨a, len, cap, zs, rfl, _, hl, _, hz, rfl, hcell, hwf⟩
  · exact ⟨none, 0, [], rfl, fun h0 => absurd h0 (by simp), fun _ => Nat.zero_le _⟩
  · have hzl : len ≤ zs.length := by rw [hz]; split <;> omega
    have hlen : (zs.take len).length = len := by rw [List.length_take]; omega
    refine ⟨some a, cap, zs.take len, by rw [hlen], ?_, fun hf => ?_⟩
    · intro h0
      rw [hlen] at h0
      have h00 := hcell 0 (by omega)
      have hsp : a.spot = none := by simpa [Addr.add] using World.cell?_spot h00
      obtain ⟨g, o, spot⟩ := a
      simp only at hsp
      subst hsp
      have hb := World.block_lt_of_cell? _ _ h00
      rw [add_at] at hb
      refine ⟨g, o, rfl, hb, fun j hj => ?_⟩
      have hj' : j < zs.length := by rw [hlen] at hj; omega
      have hcj := hcell j hj'
      rw [add_at] at hcj
      refine ⟨?_, hwf _ (List.mem_of_mem_take (List.getElem_mem hj))⟩
      rw [hcj]
      simp [hj']
    · have := (fits_slice ht hf).1
      rw [hy] at this
      simp only [strs, List.length_map, List.length_take, List.length_drop, reachBytes] at this
      rw [hlen]
      omega
end
end Go.Proofs.Ytpfacfolocjidaa
