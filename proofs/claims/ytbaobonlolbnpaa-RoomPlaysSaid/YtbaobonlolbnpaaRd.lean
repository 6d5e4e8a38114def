/- bytes.Clone and wire.Reader's methods, told of whatever bytes. -/
import Derived.Test.YtbaobonlolbnpaaSt
namespace Go.Proofs.Ytbaobonlolbnpaa
open Go.RowKit

theorem infoU8 : (Try.prog.info? 5).map (fun i => (i.zero, i.size, i.bytes)) = some (some (.int .u8 0), 1, 1) := by kernel_rfl
/-- new memory that holds bytes -/
def NewB (I : Img) (M : List Res) (bs : List UInt8) (v : Value) (J : Img) (M' : List Res) : Prop := I = J ∧ ∃ A c, v = .slice A bs.length c ∧ bs.length ≤ c ∧ M' = row 5 1 v bs.length (bvs bs) :: M

section
variable {I : Img} {M : List Res} {w : World}

/-- what a cut takes off, and what is left -/
abbrev RS := List UInt8 × Bool
def cutS (n : Int) (r : RS) : List UInt8 × RS := if r.2 = true ∨ n < 0 ∨ (r.1.length : Int) < n then ([], (r.1, true)) else (r.1.take n.toNat, (r.1.drop n.toNat, false))
theorem cutS_len (n : Int) (r : RS) (k : Nat) (h : n ≤ k) : (cutS n r).1.length ≤ k := by
  unfold cutS
  split
  · simp
  · rw [List.length_take]; omega
theorem cutS_le (n : Int) (r : RS) : (cutS n r).1.length ≤ r.1.length := by
  unfold cutS
  split
  · simp
  · rw [List.length_take]; omega
theorem cutS_left (n : Int) (r : RS) : (cutS n r).2.1.length ≤ r.1.length := by
  unfold cutS
  split
  · exact Nat.le_refl _
  · rw [List.length_drop]; omega
/-- bytes as a number -/
def numL (l : List UInt8) : Nat := l.foldl (fun x c => x * 256 + c.toNat) 0
theorem numL_snoc (l : List UInt8) (c : UInt8) : numL (l ++ [c]) = numL l * 256 + c.toNat := by simp [numL]
theorem numL_lt_aux (l : List UInt8) : ∀ acc : Nat, l.foldl (fun x c => x * 256 + c.toNat) acc < (acc + 1) * 256 ^ l.length := by
  induction l with
  | nil => intro acc; simp
  | cons c r ih =>
    intro acc
    have h1 := ih (acc * 256 + c.toNat)
    have h2 := c.toNat_lt
    have h3 : (acc * 256 + c.toNat + 1) * 256 ^ r.length ≤ ((acc + 1) * 256) * 256 ^ r.length := Nat.mul_le_mul_right _ (by omega)
    rw [List.foldl_cons, List.length_cons, Nat.pow_succ, Nat.mul_comm (256 ^ r.length) 256, ← Nat.mul_assoc]
    omega
theorem numL_lt (l : List UInt8) : numL l < 256 ^ l.length := by
  have := numL_lt_aux l 0
  simpa [numL] using this
theorem lor_add (q x : Nat) (hx : x < 256) : q * 256 ||| x = q * 256 + x := by
  have := Nat.shiftLeft_add_eq_or_of_lt (b := x) (i := 8) (by simpa using hx) q
  rw [Nat.shiftLeft_eq] at this
  simpa using this.symm
theorem or_u32 (q x : Nat) (hx : x < 256) (hq : q < 16777216) : bits BinOp.or IntKind.u32 ((q : Int) * 256) ((x : Int) % 4294967296) = ((q * 256 + x : Nat) : Int) := by
  have e1 : (x : Int) % 4294967296 = (x : Int) := by omega
  have e2 : (BitVec.ofInt 32 (((q * 256 : Nat) : Int))).toNat = q * 256 := by
    rw [BitVec.ofInt_natCast, BitVec.toNat_ofNat]; exact Nat.mod_eq_of_lt (by omega)
  have e3 : (BitVec.ofInt 32 (x : Int)).toNat = x := by
    rw [BitVec.ofInt_natCast, BitVec.toNat_ofNat]; exact Nat.mod_eq_of_lt (by omega)
  rw [e1, show ((q : Int) * 256) = ((q * 256 : Nat) : Int) by omega]
  show IntKind.u32.wrap ((BitVec.ofInt 32 ((q * 256 : Nat) : Int) ||| BitVec.ofInt 32 (x : Int)).toNat : Int) = _
  rw [BitVec.toNat_or, e2, e3, lor_add q x hx]
  simp only [IntKind.wrap, IntKind.signed, IntKind.bits]
  show ((q * 256 + x : Nat) : Int) % 4294967296 = _
  omega






end
end Go.Proofs.Ytbaobonlolbnpaa
