/- the references: H264's units. -/
import Derived.Test.YtaemohkmingnpaaFrB
namespace Go.Proofs.Ytaemohkmingnpaa
open Go.RowKit
set_option linter.unusedSimpArgs false

def keyC (c : UInt8) : Bool := c.toNat % 32 == 5 || c.toNat % 32 == 7
def unitsA : List UInt8 → Bool
  | h :: l :: r => if h.toNat * 256 + l.toNat = 0 ∨ r.length < h.toNat * 256 + l.toNat then false else keyC (r.getD 0 0) || unitsA (r.drop (h.toNat * 256 + l.toNat))
  | _ => false
termination_by l => l.length
decreasing_by simp only [List.length_drop, List.length_cons]; omega
def h264S (b : List UInt8) : Bool × Bool := match b with
  | [] => (false, false)
  | h :: r => if 1 ≤ h.toNat % 32 ∧ h.toNat % 32 ≤ 23 then (true, keyC h) else if h.toNat % 32 = 24 then (true, unitsA r) else if h.toNat % 32 = 28 then (match r with
    | [] => (false, false)
    | c :: _ => (decide (128 ≤ c.toNat), decide (128 ≤ c.toNat) && c.toNat % 32 == 5)) else (false, false)
theorem or_i64 (q x : Nat) (hx : x < 256) (hq : q < 16777216) : bits BinOp.or IntKind.i64 ((q : Int) * 256) (x : Int) = ((q * 256 + x : Nat) : Int) := by
  have e2 : (BitVec.ofInt 64 (((q * 256 : Nat) : Int))).toNat = q * 256 := by
    rw [BitVec.ofInt_natCast, BitVec.toNat_ofNat]; exact Nat.mod_eq_of_lt (by omega)
  have e3 : (BitVec.ofInt 64 (x : Int)).toNat = x := by
    rw [BitVec.ofInt_natCast, BitVec.toNat_ofNat]; exact Nat.mod_eq_of_lt (by omega)
  rw [show ((q : Int) * 256) = ((q * 256 : Nat) : Int) by omega]
  show IntKind.i64.wrap ((BitVec.ofInt 64 ((q * 256 : Nat) : Int) ||| BitVec.ofInt 64 (x : Int)).toNat : Int) = _
  rw [BitVec.toNat_or, e2, e3, lor_add q x hx]
  exact IntWalk.i64_in _ (by omega)
theorem unitsA_cons (h l : UInt8) (r : List UInt8) : unitsA (h :: l :: r) = if h.toNat * 256 + l.toNat = 0 ∨ r.length < h.toNat * 256 + l.toNat then false else keyC (r.getD 0 0) || unitsA (r.drop (h.toNat * 256 + l.toNat)) := by
  rw [unitsA]
theorem drop_at {L : List UInt8} {j : Nat} (h : j + 2 ≤ L.length) : L.drop j = L.getD j 0 :: L.getD (j + 1) 0 :: L.drop (j + 2) := by
  rw [List.drop_eq_getElem_cons (by omega), List.drop_eq_getElem_cons (by omega)]
  simp [List.getElem?_eq_getElem, show j < L.length by omega, show j + 1 < L.length by omega]
theorem two_eq {x y : Bool} {p : Bool × Bool} (h1 : x = p.1) (h2 : y = p.2) : Ending.returned (.tuple #[.bool x, .bool y]) = .returned (two p) := by rw [h1, h2]; rfl
set_option maxHeartbeats 1000000 in
theorem h264R (I : Img) (M : List Res) (w : World) (A : Option Addr) (c : Nat) (b : List UInt8) (hst : St I M w) (hb : Byts I A b) (hl : b.length ≤ 140737488351232) :
    Calls Try.prog 20 #[.slice A b.length c] w fun e w' => e = .returned (two (h264S b)) ∧ ∃ n, w' = w.drewN n := by
  rcases b with _ | ⟨b0, r⟩
  · clear hst hb
    go_enter Try.func20, Try.ntmps20
    go_wp2
    go_returns
    exact ⟨rfl, 0, rfl⟩
  obtain ⟨g, o, rfl, z0, hb1⟩ := hb.at0
  replace z0 := z0 M w hst
  have HB := Lib.hid hb
  have HS := Lib.hid hst
  have b0l := b0.toNat_lt
  clear hb hst
  by_cases k24 : b0.toNat % 32 = 24
  · have e24 : (b0.toNat : Int) % 32 = 24 := by omega
    have hz0 : h264S (b0 :: r) = (true, unitsA r) := by simp [h264S, k24]
    have HZ := Lib.hid hz0
    clear hz0 k24
    go_enter Try.func20, Try.ntmps20
    go_wp2
    go_loopw [5, 6] (fun al at' wr => ∃ (j : Nat) (a : Bool) (m : Nat), 1 ≤ j ∧ j ≤ (b0 :: r).length ∧ at' = .int .i64 j ∧ al = .bool a ∧ Hid ((a || unitsA ((b0 :: r).drop j)) = unitsA r) ∧ Hid (wr = w.drewN m)) (fun _ at' _ => (b0 :: r).length - (intOf at').toNat)
    case atStart => exact ⟨1, false, 0, by omega, by simp, rfl, rfl, by simp [Hid], rfl⟩
    case round =>
      obtain ⟨j, a, m, hj1, hj2, rfl, rfl, ha, hw⟩ := hrel
      obtain rfl : wr = w.drewN m := hw
      have HST := Lib.hid (HS.out.drewN m)
      by_cases hlt : j + 2 ≤ (b0 :: r).length
      · obtain ⟨x, hx⟩ : ∃ x, x = (b0 :: r).getD j 0 := ⟨_, rfl⟩
        obtain ⟨y, hy⟩ : ∃ y, y = (b0 :: r).getD (j + 1) 0 := ⟨_, rfl⟩
        have zj := HB.out.at' HS.out (k := j) (by omega)
        have zj1 := HB.out.at' HS.out (k := j + 1) (by omega)
        rw [← hx] at zj
        rw [← hy] at zj1
        have HX := Lib.hid hx
        have HY := Lib.hid hy
        clear hx hy
        have xl := x.toNat_lt
        have yl := y.toNat_lt
        simp only [List.length_cons] at hlt hj2 hl
        have hl2 : (j : Int) + 2 ≤ r.length + 1 := by omega
        have hj0 : (0 : Int) ≤ j := by omega
        have hj3 : (j : Int) < r.length + 1 := by omega
        have hj4 : (j : Int) + 1 < r.length + 1 := by omega
        have hor := or_i64 x.toNat y.toNat yl (by omega)
        have hdr := drop_at (L := b0 :: r) (j := j) (by simp only [List.length_cons]; omega)
        rw [← HX.out, ← HY.out] at hdr
        rw [hdr] at ha
        have HA := ha.out
        rw [unitsA_cons] at HA
        have hn16 : x.toNat * 256 + y.toNat ≤ 65535 := by omega
        generalize hnn : x.toNat * 256 + y.toNat = n at *
        have HNN := Lib.hid hnn
        have HDR := Lib.hid hdr
        clear hnn ha hdr
        by_cases hn0 : n = 0
        · subst hn0
          rw [if_pos (.inl rfl)] at HA
          go_wp2
          go_quiet (fail)
          go_wp2
          go_returns
          exact ⟨two_eq (by rw [HZ.out]) (by rw [HZ.out, ← HA]; simp), _, rfl⟩
        · have hnb : ((n : Int) == 0) = false := by simp; omega
          by_cases hfit : j + 2 + n ≤ r.length + 1
          · have hfit' : (j : Int) + 2 + n ≤ r.length + 1 := by omega
            have zk := HB.out.at' HS.out (k := j + 2) (by simp only [List.length_cons]; omega)
            rw [if_neg (by rw [List.length_drop, List.length_cons]; omega)] at HA
            have hget : ((b0 :: r).drop (j + 2)).getD 0 0 = (b0 :: r).getD (j + 2) 0 := by simp [List.getD_eq_getElem?_getD]
            rw [hget, List.drop_drop] at HA
            obtain ⟨u, hu⟩ : ∃ u, u = (b0 :: r).getD (j + 2) 0 := ⟨_, rfl⟩
            rw [← hu] at zk HA
            have hj5 : (0 : Int) ≤ j + 2 := by omega
            have hj6 : (j : Int) + 2 < r.length + 1 := by omega
            have ul := u.toNat_lt
            clear hu hget hn0
            have HK := Lib.hid (show keyC u = ((u.toNat : Int) % 32 == 5 || (u.toNat : Int) % 32 == 7) by unfold keyC; rw [Bool.eq_iff_iff]; simp; omega)
            cases a
            all_goals
              cases t5 : ((u.toNat : Int) % 32 == 5)
              all_goals
                go_wp2
                go_quiet (fail)
                go_wp2
                go_roundw
                case rel => exact ⟨j + 2 + n, _, _, by omega, by simp only [List.length_cons]; omega, by go_num, rfl, by rw [HK.out, t5] at HA; simpa [Hid, Bool.or_assoc, t5] using HA, rfl⟩
                case measure => simp [intOf]; omega
          · have hfit' : (r.length : Int) + 1 < j + 2 + n := by omega
            rw [if_pos (.inr (by rw [List.length_drop, List.length_cons]; omega))] at HA
            clear hn0
            go_wp2
            go_quiet (fail)
            go_wp2
            go_returns
            exact ⟨two_eq (by rw [HZ.out]) (by rw [HZ.out, ← HA]; simp), _, rfl⟩
      · have hl2 : (r.length : Int) + 1 < j + 2 := by simp at hlt; omega
        go_wp2
        go_returns
        have hu : unitsA ((b0 :: r).drop j) = false := by
          have h2 : ((b0 :: r).drop j).length < 2 := by rw [List.length_drop]; omega
          generalize (b0 :: r).drop j = l at *
          rcases l with _ | ⟨u, _ | ⟨v, l⟩⟩
          · unfold unitsA; rfl
          · unfold unitsA; rfl
          · simp only [List.length_cons] at h2; omega
        exact ⟨two_eq (by rw [HZ.out]) (by rw [HZ.out, ← ha.out, hu]; simp), m, rfl⟩
  · have k24b : ((b0.toNat : Int) % 32 == 24) = false := by simp; omega
    by_cases k1 : 1 ≤ b0.toNat % 32 ∧ b0.toNat % 32 ≤ 23
    · have HZ := Lib.hid (show h264S (b0 :: r) = (true, keyC b0) by simp only [h264S]; rw [if_pos k1])
      have i1 : (1 : Int) ≤ b0.toNat % 32 := by omega
      have i2 : (b0.toNat : Int) % 32 ≤ 23 := by omega
      have HK := Lib.hid (show keyC b0 = ((b0.toNat : Int) % 32 == 5 || (b0.toNat : Int) % 32 == 7) by unfold keyC; rw [Bool.eq_iff_iff]; simp; omega)
      clear k24 k1 hb1
      go_enter Try.func20, Try.ntmps20
      go_wp2
      all_goals
        go_returns
        exact ⟨two_eq (by rw [HZ.out]) (by rw [HZ.out, HK.out]; try simp [*]), 0, rfl⟩
    · by_cases k28 : b0.toNat % 32 = 28
      · have e28 : (b0.toNat : Int) % 32 = 28 := by omega
        rcases r with _ | ⟨b1, r⟩
        · have HZ := Lib.hid (show h264S [b0] = (false, false) by simp only [h264S]; rw [if_neg k1, if_neg k24, if_pos k28])
          clear k24 k1 hb1 k28
          go_enter Try.func20, Try.ntmps20
          go_wp2
          go_quiet (fail)
          go_wp2
          go_returns
          exact ⟨two_eq (by rw [HZ.out]) (by rw [HZ.out]), _, rfl⟩
        · obtain ⟨g, o, e, z1, hb2⟩ := hb1.at0
          cases e
          replace z1 := z1 M w HS.out
          have b1l := b1.toNat_lt
          have HZ := Lib.hid (show h264S (b0 :: b1 :: r) = (decide (128 ≤ b1.toNat), decide (128 ≤ b1.toNat) && b1.toNat % 32 == 5) by simp only [h264S]; rw [if_neg k1, if_neg k24, if_pos k28])
          have HK := Lib.hid (show (b1.toNat % 32 == 5) = ((b1.toNat : Int) % 32 == 5) by rw [Bool.eq_iff_iff]; simp; omega)
          clear hb1 hb2 k24 k1 k28
          by_cases h128 : (128 : Int) ≤ b1.toNat
          · have hN : decide (128 ≤ b1.toNat) = true := by simp; omega
            have HN := Lib.hid hN
            clear hN
            go_enter Try.func20, Try.ntmps20
            go_wp2
            go_quiet (fail)
            go_wp2
            go_returns
            exact ⟨two_eq (by rw [HZ.out, HN.out]) (by rw [HZ.out, HN.out, HK.out]; rfl), _, rfl⟩
          · have hN : decide (128 ≤ b1.toNat) = false := by simp; omega
            have HN := Lib.hid hN
            have hd : decide ((128 : Int) ≤ b1.toNat) = false := by simpa using h128
            clear hN
            go_enter Try.func20, Try.ntmps20
            go_wp2
            go_quiet (fail)
            go_wp2
            go_returns
            exact ⟨two_eq (by rw [HZ.out, HN.out]) (by rw [HZ.out, HN.out]; rfl), _, rfl⟩
      · have k28b : ((b0.toNat : Int) % 32 == 28) = false := by simp; omega
        have HZ := Lib.hid (show h264S (b0 :: r) = (false, false) by simp only [h264S]; rw [if_neg k1, if_neg k24, if_neg k28])
        by_cases k0 : (b0.toNat : Int) % 32 < 1
        all_goals
          have k23 : (b0.toNat : Int) % 32 < 1 ∨ (23 : Int) < b0.toNat % 32 := by omega
          clear k24 k1 k28
          go_enter Try.func20, Try.ntmps20
          go_wp2
          all_goals
            first
            | (go_returns; exact ⟨two_eq (by rw [HZ.out]) (by rw [HZ.out]), 0, rfl⟩)
            | (exfalso; omega)
end Go.Proofs.Ytaemohkmingnpaa
