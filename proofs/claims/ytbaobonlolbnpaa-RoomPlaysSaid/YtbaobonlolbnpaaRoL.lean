/- rostrumlaw23: awake, claims; a nil house. -/
import Derived.Test.YtbaobonlolbnpaaRoJ
import Derived.Test.YtbaobonlolbnpaaRoK
namespace Go.Proofs.Ytbaobonlolbnpaa
open Go.RowKit
set_option linter.unusedSimpArgs false

abbrev bA : ByteArray := ⟨#[97]⟩
abbrev bR : ByteArray := ⟨#[114]⟩
abbrev bV : ByteArray := ⟨#[118]⟩
def ho1 : Ho := ⟨[⟨1, bR, bA, 0, 3⟩], [], [], 1, 0⟩
def ho2 : Ho := ⟨[⟨1, bR, bA, 0, 3⟩], [⟨1, 1, bV, 2⟩], [], 1, 1⟩
theorem aw1 : joinS emptyHo bR bA 0 3 = (ho1, 1, 0) := by rfl
theorem aw2 : publishS ho1 1 bV 2 = (ho2, 1, 0) := by rfl
theorem aw3 : subscribeS ho2 1 1 0 = (ho2, 1) := by kernel_rfl
set_option maxHeartbeats 2000000 in
theorem awakeC (I : Img) (M : List Res) (w : World) (hst : St I M w) :
    Calls Try.prog 8 #[] w (Ret I (fun v J M' => I = J ∧ v = .bool true ∧ M' = M)) := by
  have HST := Lib.hid hst
  clear hst
  go_enter Try.func8, Try.ntmps8
  go_wp2_with fail
  refine (newC I M _ HST.out).mono ?_
  clear HST
  rintro e w1 ⟨_, _, _, rfl, _, hs, rfl, p, rfl, rfl⟩
  have HS := Lib.hid hs
  clear hs
  go_wp2_with fail
  refine (joinC I M _ p emptyHo _ _ _ bR bA 0 3 HS.out (by decide) (by decide) (by decide) (by decide) (fun m hm => by cases hm)).mono ?_
  rw [aw1]
  rintro e w2 ⟨_, _, _, rfl, _, hs, rfl, rfl, vM, rfl⟩
  replace HS := Lib.hid hs
  clear hs
  go_wp2_with fail
  refine (publishC I M _ p ho1 vM _ _ 1 bV 2 HS.out (by decide) (by decide) (by decide) (by decide) (by decide) (fun m hm => by cases hm)).mono ?_
  rw [aw2]
  rintro e w3 ⟨_, _, _, rfl, _, hs, rfl, rfl, vT, rfl⟩
  replace HS := Lib.hid hs
  clear hs
  go_wp2_with fail
  refine (subscribeC I M _ p ho2 vM vT _ 1 1 0 HS.out (by decide) (by decide) (by decide) (by decide) (by decide)).mono ?_
  rw [aw3]
  rintro e w4 ⟨_, _, _, rfl, _, hs, rfl, rfl, vM', vT', vS', rfl⟩
  replace HS := Lib.hid hs
  clear hs
  go_wp2
  go_returns
  exact Ret.mk (.refl I) HS.out.drop.drop.drop.drop ⟨rfl, rfl, rfl⟩
theorem res23 (w : World) (q : Nat) (a b : ByteArray) (c d : Int) (tmps : Array Value) (ht : tmps[2]? = some (.pointer (some ⟨q, 0, none⟩))) (h : Blk w q 52 #[.string a, .string b, .int .i64 c, .int .i64 d]) :
    (results Try.f23 tmps).run Try.prog w = .ok (.agg #[.string a, .string b, .int .i64 c, .int .i64 d]) w := by
  obtain ⟨c0, c1, c2, c3, _⟩ := Blk.four h
  simp [results, Try.results23, go_sem, ht, c0, c1, c2, c3]
set_option maxHeartbeats 2000000 in
theorem claimsC (I : Img) (M : List Res) (w : World) (a b : ByteArray) (c d : Int) (hst : St I M w) :
    Calls Try.prog 23 #[.agg #[.string a, .string b, .int .i64 c, .int .i64 d]] w (Ret I (fun v J M' => I = J ∧ v = .agg #[.string a, .string b, .int .i64 c, .int .i64 d] ∧ M' = M)) := by
  have hst1 := ((hst.alloc 30 #[.string a, .string b, .int .i64 c, .int .i64 d]).alloc 52 #[.string a, .string b, .int .i64 c, .int .i64 d])
  rw [show (w.alloc (Obj.cells #[.string a, .string b, .int .i64 c, .int .i64 d] 30)).heap.size = w.heap.size + 1 from World.size_alloc _ _] at hst1
  have H1 := Lib.hid hst1
  clear hst1 hst
  go_enter Try.func23, Try.ntmps23
  go_wp2
  refine bodyPost_ret (res23 _ _ a b c d _ rfl (H1.out.at 0 rfl)) rfl ?_
  exact Ret.mk (.refl I) H1.out.drop.drop ⟨rfl, rfl, rfl⟩

set_option maxRecDepth 8000 in
theorem nilJoin (a b : ByteArray) (c d : Int) (w : World) : Calls Try.prog 17 #[.pointer none, .agg #[.string a, .string b, .int .i64 c, .int .i64 d]] w fun e w' => e = .returned (.tuple #[.int .i64 0, .int .i64 1]) ∧ Below w.heap.size w w' := by
  go_enter Try.func17, Try.ntmps17
  go_wp2
  go_returns
  exact ⟨rfl, by first | exact Below.refl _ _ | exact (Below.refl _ _).alloc (Nat.le_refl _) _ | exact ((Below.refl _ _).alloc (Nat.le_refl _) _).alloc (by simp) _⟩
set_option maxRecDepth 8000 in
theorem nilPublish (id : Int) (mid : ByteArray) (kind : Int) (w : World) : Calls Try.prog 24 #[.pointer none, .int .i64 id, .string mid, .int .i64 kind] w fun e w' => e = .returned (.tuple #[.int .i64 0, .int .i64 1]) ∧ Below w.heap.size w w' := by
  go_enter Try.func24, Try.ntmps24
  go_wp2
  go_returns
  exact ⟨rfl, by first | exact Below.refl _ _ | exact (Below.refl _ _).alloc (Nat.le_refl _) _ | exact ((Below.refl _ _).alloc (Nat.le_refl _) _).alloc (by simp) _⟩
set_option maxRecDepth 8000 in
theorem nilRoom (id : Int) (w : World) : Calls Try.prog 14 #[.pointer none, .int .i64 id] w fun e w' => e = .returned (.tuple #[.string ⟨#[]⟩, .int .i64 1]) ∧ Below w.heap.size w w' := by
  go_enter Try.func14, Try.ntmps14
  go_wp2
  go_returns
  exact ⟨rfl, by first | exact Below.refl _ _ | exact (Below.refl _ _).alloc (Nat.le_refl _) _ | exact ((Below.refl _ _).alloc (Nat.le_refl _) _).alloc (by simp) _⟩
set_option maxRecDepth 8000 in
theorem nilLeave (id : Int) (w : World) : Calls Try.prog 15 #[.pointer none, .int .i64 id] w fun e w' => e = .returned (.int .i64 1) ∧ Below w.heap.size w w' := by
  go_enter Try.func15, Try.ntmps15
  go_wp2
  go_returns
  exact ⟨rfl, by first | exact Below.refl _ _ | exact (Below.refl _ _).alloc (Nat.le_refl _) _ | exact ((Below.refl _ _).alloc (Nat.le_refl _) _).alloc (by simp) _⟩
set_option maxRecDepth 8000 in
theorem nilUnpublish (id : Int) (w : World) : Calls Try.prog 25 #[.pointer none, .int .i64 id] w fun e w' => e = .returned (.int .i64 1) ∧ Below w.heap.size w w' := by
  go_enter Try.func25, Try.ntmps25
  go_wp2
  go_returns
  exact ⟨rfl, by first | exact Below.refl _ _ | exact (Below.refl _ _).alloc (Nat.le_refl _) _ | exact ((Below.refl _ _).alloc (Nat.le_refl _) _).alloc (by simp) _⟩
set_option maxRecDepth 8000 in
theorem nilSubscribe (id t l : Int) (w : World) : Calls Try.prog 26 #[.pointer none, .int .i64 id, .int .i64 t, .int .i64 l] w fun e w' => e = .returned (.int .i64 1) ∧ Below w.heap.size w w' := by
  go_enter Try.func26, Try.ntmps26
  go_wp2
  go_returns
  exact ⟨rfl, by first | exact Below.refl _ _ | exact (Below.refl _ _).alloc (Nat.le_refl _) _ | exact ((Below.refl _ _).alloc (Nat.le_refl _) _).alloc (by simp) _⟩
set_option maxRecDepth 8000 in
theorem nilUnsubscribe (id t : Int) (w : World) : Calls Try.prog 27 #[.pointer none, .int .i64 id, .int .i64 t] w fun e w' => e = .returned (.int .i64 1) ∧ Below w.heap.size w w' := by
  go_enter Try.func27, Try.ntmps27
  go_wp2
  go_returns
  exact ⟨rfl, by first | exact Below.refl _ _ | exact (Below.refl _ _).alloc (Nat.le_refl _) _ | exact ((Below.refl _ _).alloc (Nat.le_refl _) _).alloc (by simp) _⟩
set_option maxRecDepth 8000 in
theorem nilMembers (s : ByteArray) (w : World) : Calls Try.prog 12 #[.pointer none, .string s] w fun e w' => e = .returned (.slice none 0 0) ∧ Below w.heap.size w w' := by
  go_enter Try.func12, Try.ntmps12
  go_wp2
  go_returns
  exact ⟨rfl, by first | exact Below.refl _ _ | exact (Below.refl _ _).alloc (Nat.le_refl _) _ | exact ((Below.refl _ _).alloc (Nat.le_refl _) _).alloc (by simp) _⟩
set_option maxRecDepth 8000 in
theorem nilTracks (s : ByteArray) (w : World) : Calls Try.prog 13 #[.pointer none, .string s] w fun e w' => e = .returned (.slice none 0 0) ∧ Below w.heap.size w w' := by
  go_enter Try.func13, Try.ntmps13
  go_wp2
  go_returns
  exact ⟨rfl, by first | exact Below.refl _ _ | exact (Below.refl _ _).alloc (Nat.le_refl _) _ | exact ((Below.refl _ _).alloc (Nat.le_refl _) _).alloc (by simp) _⟩
set_option maxRecDepth 8000 in
theorem nilSubs (id : Int) (w : World) : Calls Try.prog 16 #[.pointer none, .int .i64 id] w fun e w' => e = .returned (.slice none 0 0) ∧ Below w.heap.size w w' := by
  go_enter Try.func16, Try.ntmps16
  go_wp2
  go_returns
  exact ⟨rfl, by first | exact Below.refl _ _ | exact (Below.refl _ _).alloc (Nat.le_refl _) _ | exact ((Below.refl _ _).alloc (Nat.le_refl _) _).alloc (by simp) _⟩
set_option maxRecDepth 8000 in
theorem nilRights (id : Int) (w : World) : Calls Try.prog 18 #[.pointer none, .int .i64 id] w fun e w' => e = .returned (.int .i64 0) ∧ Below w.heap.size w w' := by
  go_enter Try.func18, Try.ntmps18
  go_wp2
  go_returns
  exact ⟨rfl, by first | exact Below.refl _ _ | exact (Below.refl _ _).alloc (Nat.le_refl _) _ | exact ((Below.refl _ _).alloc (Nat.le_refl _) _).alloc (by simp) _⟩
end Go.Proofs.Ytbaobonlolbnpaa
