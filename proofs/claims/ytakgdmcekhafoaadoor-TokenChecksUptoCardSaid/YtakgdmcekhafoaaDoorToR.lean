/- the document's round functions are the program's. -/
import Derived.Test.YtakgdmcekhafoaaDoorToB
namespace Go.Proofs.YtakgdmcekhafoaaDoor
set_option linter.unusedSimpArgs false

/-- rostrumref02.Sum's function of a round -/
def fR (t : Nat) (b c d : BitVec 32) : BitVec 32 :=
  if 60 ≤ t then (b ^^^ c) ^^^ d else if 40 ≤ t then ((b &&& c) ||| (b &&& d)) ||| (c &&& d) else if 20 ≤ t then (b ^^^ c) ^^^ d else (b &&& c) ||| (~~~ b &&& d)
theorem ch_eq (b c d : BitVec 32) : (b &&& c) ||| (~~~ b &&& d) = d ^^^ (b &&& (c ^^^ d)) := by
  ext i hi
  simp only [BitVec.getElem_or, BitVec.getElem_and, BitVec.getElem_not, BitVec.getElem_xor]
  cases b[i] <;> cases c[i] <;> cases d[i] <;> rfl
theorem maj_eq (b c d : BitVec 32) : ((b &&& c) ||| (b &&& d)) ||| (c &&& d) = (b &&& c) ||| (d &&& (b ||| c)) := by
  ext i hi
  simp only [BitVec.getElem_or, BitVec.getElem_and]
  cases b[i] <;> cases c[i] <;> cases d[i] <;> rfl
theorem fR_eq (t : Nat) (b c d : BitVec 32) : fR t b c d = fP t b c d := by
  unfold fR fP
  by_cases h1 : t < 20
  · rw [if_neg (by omega), if_neg (by omega), if_neg (by omega), if_pos h1, ch_eq]
  by_cases h2 : t < 40
  · rw [if_neg (by omega), if_neg (by omega), if_pos (by omega), if_neg h1, if_pos h2]
  by_cases h3 : t < 60
  · rw [if_neg (by omega), if_pos (by omega), if_neg h1, if_neg h2, if_pos h3, maj_eq]
  · rw [if_pos (by omega), if_neg h1, if_neg h2, if_neg h3]
end Go.Proofs.YtakgdmcekhafoaaDoor
