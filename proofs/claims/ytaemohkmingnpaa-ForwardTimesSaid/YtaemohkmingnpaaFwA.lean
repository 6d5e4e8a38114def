/- forward.Flow: its words; New, Choose, Layer, time, Before16. -/
import Derived.Test.YtaemohkmingnpaaFrA
namespace Go.Proofs.Ytaemohkmingnpaa
open Go.RowKit
set_option linter.unusedSimpArgs false

structure Fl where
  codec : ByteArray
  clock : Int
  typ : Int
  seq : Int
  time : Int
  source : Int
  wanted : Int
  layer : Int
  broken : Bool
  begun : Bool
  last : Int
  moment : Int
  offset : Int
  picture : Int
abbrev flC (f : Fl) : Array Value := #[.string f.codec, .int .i64 f.clock, .bool false, .int .i64 f.typ, .int .u16 f.seq, .int .u32 f.time, .int .u32 f.source, .slice none 0 0, .slice none 0 0, .slice none 0 0, .int .i64 0, .int .i64 f.wanted, .int .i64 f.layer, .bool f.broken, .bool f.begun, .int .u16 f.last, .int .i64 f.moment, .int .u32 f.offset, .int .i64 f.picture]
theorem Blk.all {w : World} {g : Nat} {t : TypeId} {cs : Array Value} (h : Blk w g t cs) : (∀ i, w.cell? ⟨g, i, none⟩ = cs[i]?) ∧ (∀ i, w.frozen? ⟨g, i, none⟩ = false) ∧ g < w.heap.size := ⟨h.cell, h.frozen, h.lt⟩
/-- a flow whose numbers lie within their kinds -/
structure Fl.ok (f : Fl) : Prop where
  clock : 1 ≤ f.clock ∧ f.clock ≤ 1000000
  seq : 0 ≤ f.seq ∧ f.seq ≤ 65535
  time : 0 ≤ f.time ∧ f.time ≤ 4294967295
  wanted : 0 ≤ f.wanted ∧ f.wanted ≤ 9223372036854775807
  layer : -1 ≤ f.layer ∧ f.layer ≤ 9223372036854775807
  last : 0 ≤ f.last ∧ f.last ≤ 65535
  moment : -9223372036854775808 ≤ f.moment ∧ f.moment ≤ 9223372036854775807
  offset : 0 ≤ f.offset ∧ f.offset ≤ 4294967295
  picture : 0 ≤ f.picture ∧ f.picture ≤ 32767
def newFl (codec : ByteArray) (clock source kind seq time : Int) : Fl := { codec, clock := min (max clock 1) 1000000, typ := kind, seq, time, source, wanted := 0, layer := -1, broken := false, begun := false, last := 0, moment := 0, offset := 0, picture := 0 }
set_option maxHeartbeats 400000 in
theorem newC (I : Img) (M : List Res) (w : World) (hst : St I M w) (codec : ByteArray) (clock source kind seq time : Int) :
    Calls Try.prog 17 #[.string codec, .int .i64 clock, .int .u32 source, .int .i64 kind, .int .u16 seq, .int .u32 time] w (Ret I (fun v J M' => I = J ∧ ∃ p, v = .pointer (some ⟨p, 0, none⟩) ∧ M' = bk p 64 (flC (newFl codec clock source kind seq time)) :: M)) := by
  have H := Lib.hid hst
  clear hst
  go_enter Try.func17, Try.ntmps17
  go_wp2
  all_goals
    go_returns
    refine Ret.mk (.refl I) (H.out.alloc _ _) ⟨rfl, _, rfl, ?_⟩
    first
      | (have e : min (max clock 1) 1000000 = 1 := by omega
         unfold newFl; rw [e])
      | (have e : min (max clock 1) 1000000 = clock := by omega
         unfold newFl; rw [e])
      | (have e : min (max clock 1) 1000000 = 1000000 := by omega
         unfold newFl; rw [e])
def chooseF (f : Fl) (n : Int) : Fl := if 0 ≤ n then { f with wanted := n } else f
set_option maxHeartbeats 400000 in
theorem chooseC (I : Img) (M : List Res) (w : World) (p : Nat) (f : Fl) (n : Int) (hst : St I (bk p 64 (flC f) :: M) w) :
    Calls Try.prog 12 #[.pointer (some ⟨p, 0, none⟩), .int .i64 n] w (Ret I (fun v J M' => I = J ∧ v = .tuple #[] ∧ M' = bk p 64 (flC (chooseF f n)) :: M)) := by
  obtain ⟨hc, hf, hlt⟩ := Blk.all hst.head
  have H := Lib.hid hst
  have HE := Lib.hid (show chooseF f n = if 0 ≤ n then { f with wanted := n } else f from rfl)
  clear hst
  by_cases hn : 0 ≤ n
  · have HN := Lib.hid hn
    go_enter Try.func12, Try.ntmps12
    go_wp2
    go_end0
    exact Ret.mk (.refl I) (H.out.set 11 (.int .i64 n)) ⟨rfl, rfl, by rw [HE.out, if_pos HN.out]; rfl⟩
  · have hd : decide (0 ≤ n) = false := by simpa using hn
    have HN := Lib.hid hn
    go_enter Try.func12, Try.ntmps12
    go_wp2
    go_end0
    exact Ret.mk (.refl I) H.out ⟨rfl, rfl, by rw [HE.out, if_neg (Int.not_le.2 HN.out)]⟩
def before (a b : Int) : Bool := decide (0 < IntKind.i16.wrap (IntKind.u16.wrap (b - a)))
set_option maxHeartbeats 400000 in
theorem beforeC (w : World) (a b : Int) : Calls Try.prog 23 #[.int .u16 a, .int .u16 b] w fun e w' => e = .returned (.bool (before a b)) ∧ w = w' := by
  go_enter Try.func23, Try.ntmps23
  go_wp2
  go_returns
  exact ⟨ret_eq rfl, rfl⟩
end Go.Proofs.Ytaemohkmingnpaa
