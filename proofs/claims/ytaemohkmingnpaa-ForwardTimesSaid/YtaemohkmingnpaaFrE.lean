/- frame.Begins, frame.Picture, and the references'. -/
import Derived.Test.YtaemohkmingnpaaFrD
namespace Go.Proofs.Ytaemohkmingnpaa
open Go.RowKit
set_option linter.unusedSimpArgs false

def isV (c : ByteArray) : Bool := c.toList == [86, 80, 56]
def isH (c : ByteArray) : Bool := c.toList == [72, 50, 54, 52]
def beginsS (c : ByteArray) (b : List UInt8) : Bool × Bool := if isV c then begS b else if isH c then h264S b else (true, true)
def bitsN (s : Int) : Int := if s = 1 then 7 else if s = 2 then 15 else 0
theorem rdV_no {b : List UInt8} {n s t : Int} (h : vpR b = (n, s, t, false)) : ∃ B A N D, rdV b = .tuple #[.agg #[.bool B, .int .i64 A, .int .i64 N, .int .i64 D], .bool false] := by
  unfold rdV
  rw [vp_ok b, h]
  exact ⟨_, _, _, _, rfl⟩
theorem rdV_yes {b : List UInt8} {n s t : Int} (h : vpR b = (n, s, t, true)) : rdV b = .tuple #[.agg #[.bool (begB b), .int .i64 n, .int .i64 (bitsN s), .int .i64 t], .bool true] := by
  obtain ⟨h1, h2, h3⟩ := vp_vals b (by rw [h])
  unfold rdV bitsN
  rw [vp_ok b, h1, h2, h3, h]
set_option maxHeartbeats 1000000 in
theorem beginsR (I : Img) (M : List Res) (w : World) (cd : ByteArray) (A : Option Addr) (c : Nat) (b : List UInt8) (hst : St I M w) (hb : Byts I A b) (hl : b.length ≤ 140737488351232) :
    Calls Try.prog 10 #[.string cd, .slice A b.length c] w fun e w' => e = .returned (two (beginsS cd b)) ∧ ∃ n, w' = w.drewN n := by
  have HS := Lib.hid (show beginsS cd b = if cd.toList == [86, 80, 56] then begS b else if cd.toList == [72, 50, 54, 52] then h264S b else (true, true) from rfl)
  have h16 := begR I M w A c b hst hb hl
  have h17 := h264R I M w A c b hst hb hl
  clear hst hb
  cases t1 : (cd.toList == [86, 80, 56])
  · cases t2 : (cd.toList == [72, 50, 54, 52])
    · go_enter Try.func10, Try.ntmps10
      go_wp2
      go_returns
      exact ⟨ret_eq (by rw [HS.out, t1, t2]; rfl), 0, rfl⟩
    · go_enter Try.func10, Try.ntmps10
      go_wp2_with fail
      refine h17.mono ?_
      rintro e w' ⟨rfl, n, rfl⟩
      unfold two
      go_wp2
      go_returns
      exact ⟨ret_eq (by rw [HS.out, t1, t2]; rfl), n, rfl⟩
  · go_enter Try.func10, Try.ntmps10
    go_wp2_with fail
    refine h16.mono ?_
    rintro e w' ⟨rfl, n, rfl⟩
    unfold two
    go_wp2
    go_returns
    exact ⟨ret_eq (by rw [HS.out, t1]; rfl), n, rfl⟩
set_option maxHeartbeats 1000000 in
theorem beginsP (I : Img) (M : List Res) (w : World) (cd : ByteArray) (A : Option Addr) (c : Nat) (b : List UInt8) (hst : St I M w) (hb : Byts I A b) (hl : b.length ≤ 140737488351232) :
    Calls Try.prog 21 #[.string cd, .slice A b.length c] w (Ret I (fun v _ M' => v = two (beginsS cd b) ∧ M' = M)) := by
  have HS := Lib.hid (show beginsS cd b = if cd.toList == [86, 80, 56] then begS b else if cd.toList == [72, 50, 54, 52] then h264S b else (true, true) from rfl)
  have h14 := readP I M w A c b hst hb hl
  have h15 := h264P I M w A c b hst hb hl
  have HB := Lib.hid hb
  have HH := Lib.hid hst
  clear hst hb
  cases t1 : (cd.toList == [86, 80, 56])
  · cases t2 : (cd.toList == [72, 50, 54, 52])
    · go_enter Try.func21, Try.ntmps21
      go_wp2
      go_returns
      exact Ret.mk (.refl I) HH.out ⟨by rw [HS.out, t1, t2]; rfl, rfl⟩
    · go_enter Try.func21, Try.ntmps21
      go_wp2_with fail
      refine h15.mono ?_
      rintro e w' ⟨_, J, M', rfl, hle, hst, rfl, rfl⟩
      have H2 := Lib.hid hst
      clear hst
      unfold two
      go_wp2
      go_returns
      exact Ret.mk hle H2.out ⟨by rw [HS.out, t1, t2]; rfl, rfl⟩
  · rcases hv : vpR b with ⟨n, s, t, ok⟩
    cases ok with
    | false =>
      obtain ⟨B, A', N, D, hr⟩ := rdV_no hv
      have HZ := Lib.hid (show begS b = (false, false) by simp [begS, hv])
      rw [hr] at h14
      clear hv hr h15
      go_enter Try.func21, Try.ntmps21
      go_wp2_with fail
      refine h14.mono ?_
      rintro e w1 ⟨_, J, M', rfl, hle, hst, rfl, rfl⟩
      have H2 := Lib.hid hst
      clear hst
      go_wp2
      go_quiet (fail)
      go_wp2
      go_returns
      exact Ret.mk hle ((H2.out.alloc _ _).drop.drewN _) ⟨by rw [HS.out, t1, if_pos rfl, HZ.out]; rfl, rfl⟩
    | true =>
      have hr := rdV_yes hv
      obtain ⟨k, rfl, hk, _⟩ := vpR_lt hv
      have HZ := Lib.hid (show begS b = if begB b then (true, lowB b k) else (false, false) by simp [begS, hv])
      rw [hr] at h14
      clear hv hr h15
      generalize bitsN s = N at *
      have hk' : (k : Int) < b.length := by omega
      have hk0 : (0 : Int) ≤ k := by omega
      obtain ⟨g, o, rfl, _⟩ := HB.out.at (by omega)
      cases hB : begB b
      all_goals
        rw [hB] at h14
        have HBB := Lib.hid hB
        clear hB
        go_enter Try.func21, Try.ntmps21
        go_wp2_with fail
        refine h14.mono ?_
        rintro e w1 ⟨_, J, M', rfl, hle, hst, rfl, rfl⟩
        have hz := (HB.out.mono hle).at' hst hk
        have H2 := Lib.hid hst
        clear hst
        have hg : g < w1.heap.size := World.block_lt_of_cell? _ _ hz
        go_wp2
        go_quiet (fail)
        go_wp2
        go_returns
        exact Ret.mk hle ((H2.out.alloc _ _).drop.drewN _) ⟨by rw [HS.out, t1, if_pos rfl, HZ.out, HBB.out]; simp [two, lowB, hk], rfl⟩
end Go.Proofs.Ytaemohkmingnpaa
