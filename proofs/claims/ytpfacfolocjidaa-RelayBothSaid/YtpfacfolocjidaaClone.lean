/- bytes.Clone and bytes.Equal, told of whatever bytes. No condition but a bound on the length. -/
import Derived.Test.YtpfacfolocjidaaBkOpen
namespace Go.Proofs.Ytpfacfolocjidaa
open Go.RowKit

/-- new memory that holds bytes -/
def NewBytes (bs : List UInt8) (w : World) (e : Ending) (w' : World) : Prop :=
  ∃ v, e = .returned v ∧ w'.ownsRow w.heap.size 5 1 v bs.length (bvs bs) ∧ Below w.heap.size w w'

set_option maxHeartbeats 400000 in
theorem clone (A : Option Addr) (c : Nat) (bs : List UInt8) (w : World) (hb : Byts w A bs) (hl : bs.length ≤ 140737488351232) :
    Calls Try.prog 31 #[.slice A bs.length c] w (NewBytes bs w) := by
  obtain ⟨i0, hi, hz0, hz1, hz2⟩ := info_parts info5
  have hq := Lib.run_eql_slice_nil (P := Try.prog) w 27 5 A bs.length c 0 0 Try.underlying27
  match A with
  | none =>
    have h0 : bs = [] := by
      rcases bs with _ | ⟨b, r⟩
      · rfl
      · obtain ⟨_, _, e, _⟩ := hb (by simp); cases e
    subst h0
    show Calls Try.prog 31 #[.slice none 0 c] w (NewBytes [] w)
    replace hq : (binOp .eql 27 (.slice none 0 c) (.slice none 0 0)).run Try.prog w = .ok (.bool true) w := hq
    clear hb hl
    go_enter Try.func31, Try.ntmps31
    go_wp2
    go_ret
    exact ⟨_, rfl, World.ownsRow_nil _ _ _ _, Below.refl _ _⟩
  | some a =>
    have hsrc := (hb.below ((Below.refl _ _).alloc (Nat.le_refl _) (.cells #[] 5)) (Nat.le_refl _)).src (P := Try.prog) (t := 27) Try.underlying27 c
    have hown := World.ownsRow_lit (base := w.heap.size) (e := 5) (size := 1) w #[] 0 (Nat.le_refl _) (Nat.zero_le _) rfl
    have Hs := Lib.hid hsrc
    have Ho := Lib.hid hown
    clear hsrc hown
    go_enter Try.func31, Try.ntmps31
    go_wp2_with (at_builtin; refine wpList_append_src _ rfl _ _ 27 27 rfl w.heap.size 5 i0 (.int .u8 0) 1 1 Try.underlying27 hi hz0 hz1 hz2 rfl _ _ _ rfl Ho.out _ _ _ rfl Hs.out (by unfold maxLen; omega) (by omega) (by simp) ?_)
    intro v' w3 hown' hgrow _
    have hB := ((Below.refl w.heap.size w).alloc (Nat.le_refl _) (.cells #[] 5)).grown hgrow (by simp) (fun k hk => by simp [Value.ownBlock] at hk; omega)
    have HO := Lib.hid hown'
    obtain ⟨A', cap', rfl⟩ := own_form hown'
    clear hown' hgrow
    go_wp2
    go_ret
    exact ⟨_, rfl, HO.out, hB⟩

/-- bytes as a string -/
theorem conv_bytes {w : World} {A : Option Addr} {bs : List UInt8} (hb : Byts w A bs) (c : Nat) : (convert 27 9 (.slice A bs.length c)).run Try.prog w = .ok (.string ⟨bs.toArray⟩) w := by
  match A with
  | none =>
    have h0 : bs = [] := by
      rcases bs with _ | ⟨b, r⟩
      · rfl
      · obtain ⟨_, _, e, _⟩ := hb (by simp); cases e
    subst h0
    exact run_convert_bytes_nil w 27 5 Try.underlying27 Try.underlying5 0 c 9 Try.underlying9
  | some a =>
    refine run_convert_bytes_back w 27 9 5 a c bs Try.underlying27 Try.underlying5 Try.underlying9 (fun j hj => ?_)
    obtain ⟨g, o, e, _, hc⟩ := hb (by omega)
    injection e with e
    subst e
    rw [add_at]
    exact hc j hj
end Go.Proofs.Ytpfacfolocjidaa
