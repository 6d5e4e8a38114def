/- small functions: within, Before16, where, what is asked of reports and arrivals. -/
import Derived.Test.YtddopbbmgpnjjaaRcA
namespace Go.Proofs.Ytddopbbmgpnjjaa
open Go.RowKit
set_option linter.unusedSimpArgs false

theorem ret_bool {a b : Bool} (h : a = b) : Ending.returned (.bool a) = .returned (.bool b) := by rw [h]
def withinB (n lo hi : Int) : Bool := decide (lo ≤ n) && decide (n ≤ hi)
set_option maxHeartbeats 400000 in
theorem withinC (n lo hi : Int) (w : World) : Calls Try.prog 19 #[.int .i64 n, .int .i64 lo, .int .i64 hi] w fun e w' => e = .returned (.bool (withinB n lo hi)) ∧ w = w' := by
  have HE := Lib.hid (show withinB n lo hi = (decide (lo ≤ n) && decide (n ≤ hi)) from rfl)
  by_cases h : lo ≤ n
  · go_enter Try.func19, Try.ntmps19
    go_wp2
    go_returns
    exact ⟨ret_bool (by rw [HE.out, decide_eq_true h]; rfl), rfl⟩
  · have h' : decide (lo ≤ n) = false := decide_eq_false h
    go_enter Try.func19, Try.ntmps19
    go_wp2
    go_returns
    exact ⟨ret_bool (by rw [HE.out, h']; rfl), rfl⟩
/-- b is behind a, of numbers of 16 bits -/
def beforeB (a b : Int) : Bool := decide (0 < (b - a) % 65536) && decide ((b - a) % 65536 < 32768)
theorem before_eq (a b : Int) : beforeB a b = ((IntKind.u16.wrap (b - a) != 0) && decide (IntKind.u16.wrap (b - a) < 32768)) := by
  rw [u16_mod]
  unfold beforeB
  congr 1
  rw [Bool.eq_iff_iff]
  simp
  omega
theorem before_eq16 (a b : Int) : beforeB a b = decide (0 < IntKind.i16.wrap (IntKind.u16.wrap (b - a))) := by
  have e : ∀ x, IntKind.i16.wrap x = (x + 32768) % 65536 - 32768 := by
    intro x
    simp only [IntKind.wrap, IntKind.signed, IntKind.bits]
    show (if (true && decide (x % 65536 ≥ 32768)) = true then x % 65536 - 65536 else x % 65536) = _
    by_cases h : x % 65536 ≥ 32768
    · rw [if_pos (by simp [h])]; omega
    · rw [if_neg (by simp [h])]; omega
  rw [e, u16_mod]
  unfold beforeB
  rw [Bool.eq_iff_iff]
  simp
  omega
set_option maxHeartbeats 400000 in
theorem beforeR (a b : Int) (w : World) : Calls Try.prog 34 #[.int .u16 a, .int .u16 b] w fun e w' => e = .returned (.bool (beforeB a b)) ∧ w = w' := by
  have HE := Lib.hid (before_eq a b)
  cases h : (IntKind.u16.wrap (b - a) != 0)
  · go_enter Try.func34, Try.ntmps34
    go_wp2
    go_returns
    exact ⟨ret_bool (by rw [HE.out]; simp [h]), rfl⟩
  · go_enter Try.func34, Try.ntmps34
    go_wp2
    go_returns
    exact ⟨ret_bool (by rw [HE.out]; simp [h]), rfl⟩
set_option maxHeartbeats 400000 in
theorem beforeC (a b : Int) (w : World) : Calls Try.prog 43 #[.int .u16 a, .int .u16 b] w fun e w' => e = .returned (.bool (beforeB a b)) ∧ w = w' := by
  have HE := Lib.hid (before_eq16 a b)
  go_enter Try.func43, Try.ntmps43
  go_wp2
  go_returns
  exact ⟨ret_bool HE.out.symm, rfl⟩
/-- the second byte of a kind, and the lower bits of the first one -/
def whereP (k : Int) : Int × Int := if k = 1 then (200, -1) else if k = 2 then (201, -1) else if k = 3 then (202, 1) else if k = 4 then (203, -1) else if k = 5 then (205, 1) else if k = 6 then (205, 15) else if k = 7 then (206, 1) else (206, 4)
theorem ret_two {a b c d : Int} {k l : IntKind} (h1 : a = c) (h2 : b = d) : Ending.returned (.tuple #[.int k a, .int l b]) = .returned (.tuple #[.int k c, .int l d]) := by rw [h1, h2]
set_option maxHeartbeats 400000 in
theorem whereC (k : Int) (w : World) : Calls Try.prog 47 #[.int .i64 k] w fun e w' => e = .returned (.tuple #[.int .u8 (whereP k).1, .int .i64 (whereP k).2]) ∧ w = w' := by
  by_cases h1 : k = 1
  · subst h1; go_enter Try.func47, Try.ntmps47; go_wp2; go_returns; exact ⟨rfl, rfl⟩
  by_cases h2 : k = 2
  · subst h2; go_enter Try.func47, Try.ntmps47; go_wp2; go_returns; exact ⟨rfl, rfl⟩
  by_cases h3 : k = 3
  · subst h3; go_enter Try.func47, Try.ntmps47; go_wp2; go_returns; exact ⟨rfl, rfl⟩
  by_cases h4 : k = 4
  · subst h4; go_enter Try.func47, Try.ntmps47; go_wp2; go_returns; exact ⟨rfl, rfl⟩
  by_cases h5 : k = 5
  · subst h5; go_enter Try.func47, Try.ntmps47; go_wp2; go_returns; exact ⟨rfl, rfl⟩
  by_cases h6 : k = 6
  · subst h6; go_enter Try.func47, Try.ntmps47; go_wp2; go_returns; exact ⟨rfl, rfl⟩
  by_cases h7 : k = 7
  · subst h7; go_enter Try.func47, Try.ntmps47; go_wp2; go_returns; exact ⟨rfl, rfl⟩
  have HE := Lib.hid (show whereP k = (206, 4) from by unfold whereP; rw [if_neg h1, if_neg h2, if_neg h3, if_neg h4, if_neg h5, if_neg h6, if_neg h7])
  have g1 : (k == 1) = false := beq_eq_false_iff_ne.2 h1
  have g2 : (k == 2) = false := beq_eq_false_iff_ne.2 h2
  have g3 : (k == 3) = false := beq_eq_false_iff_ne.2 h3
  have g4 : (k == 4) = false := beq_eq_false_iff_ne.2 h4
  have g5 : (k == 5) = false := beq_eq_false_iff_ne.2 h5
  have g6 : (k == 6) = false := beq_eq_false_iff_ne.2 h6
  have g7 : (k == 7) = false := beq_eq_false_iff_ne.2 h7
  go_enter Try.func47, Try.ntmps47
  go_wp2
  go_returns
  exact ⟨by rw [HE.out]; rfl, rfl⟩
/-- a total of more than 24 bits -/
def bigT (x : Rp) : Bool := decide (16777216 ≤ x.total)
theorem big_eq {t : Int} (h0 : 0 ≤ t) : (t / 16777216 != 0) = decide (16777216 ≤ t) := by
  rw [Bool.eq_iff_iff]; simp; omega
set_option maxHeartbeats 400000 in
theorem bigC (x : Rp) (w : World) (h0 : 0 ≤ x.total) (_h1 : x.total ≤ 4294967295) : Calls Try.prog 42 #[.agg #[.int .u32 x.src, .int .u8 x.lost, .int .u32 x.total, .int .u32 x.high, .int .u32 x.jit, .int .u32 x.last, .int .u32 x.delay]] w fun e w' => e = .returned (.bool (bigT x)) ∧ Below w.heap.size w w' := by
  have HE := Lib.hid (big_eq h0)
  go_enter Try.func42, Try.ntmps42
  go_wp2
  go_returns
  exact ⟨ret_bool HE.out, (Below.refl _ _).alloc (Nat.le_refl _) _⟩
def badA (a : Int) : Bool := (a != 65536) && !(withinB a (-32768) 32767)
set_option maxHeartbeats 400000 in
theorem badC (a : Int) (w : World) : Calls Try.prog 45 #[.int .i64 a] w fun e w' => e = .returned (.bool (badA a)) ∧ Below w.heap.size w w' := by
  have HE := Lib.hid (show badA a = ((a != 65536) && !(withinB a (-32768) 32767)) from rfl)
  have HC := Lib.hid (withinC a (-32768) 32767 w)
  cases h : (a != 65536)
  · go_enter Try.func45, Try.ntmps45
    go_wp2
    go_returns
    exact ⟨ret_bool (by rw [HE.out, h]; rfl), Below.refl _ _⟩
  · go_enter Try.func45, Try.ntmps45
    go_wp2_with fail
    go_at_call 19
    refine HC.out.mono ?_
    rintro e w2 ⟨rfl, hw⟩
    subst hw
    go_wp2
    go_returns
    exact ⟨ret_bool (by rw [HE.out, h]; rfl), Below.refl _ _⟩
end Go.Proofs.Ytddopbbmgpnjjaa
