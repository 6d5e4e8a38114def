/- frame.SetPicture, and the reference's. -/
import Derived.Test.YtaemohkmingnpaaFrE
namespace Go.Proofs.Ytaemohkmingnpaa
open Go.RowKit
set_option linter.unusedSimpArgs false

theorem land_mod {n : Int} (h0 : 0 ≤ n) (h1 : n ≤ 9223372036854775807) : bits BinOp.and IntKind.i64 n 127 = n % 128 := by
  obtain ⟨k, rfl⟩ := Int.eq_ofNat_of_zero_le h0
  have e2 : (BitVec.ofInt 64 ((k : Nat) : Int)).toNat = k := by
    rw [BitVec.ofInt_natCast, BitVec.toNat_ofNat]; exact Nat.mod_eq_of_lt (by omega)
  show IntKind.i64.wrap ((BitVec.ofInt 64 ((k : Nat) : Int) &&& BitVec.ofInt 64 127).toNat : Int) = _
  rw [BitVec.toNat_and, e2, show (BitVec.ofInt 64 127).toNat = 2 ^ 7 - 1 from rfl, Nat.and_two_pow_sub_one_eq_mod]
  rw [IntWalk.i64_in _ (by omega)]
  omega
theorem lor128_i64 {n : Int} (h0 : 0 ≤ n) (h1 : n < 128) : bits BinOp.or IntKind.i64 128 n = 128 + n := by
  obtain ⟨k, rfl⟩ := Int.eq_ofNat_of_zero_le h0
  have h : ∀ k, k < 128 → bits BinOp.or IntKind.i64 128 ((k : Nat) : Int) = 128 + k := by decide +kernel
  exact h k (by omega)
theorem lor128_u8 {n : Int} (h0 : 0 ≤ n) (h1 : n < 128) : bits BinOp.or IntKind.u8 128 n = 128 + n := by
  obtain ⟨k, rfl⟩ := Int.eq_ofNat_of_zero_le h0
  have h : ∀ k, k < 128 → bits BinOp.or IntKind.u8 128 ((k : Nat) : Int) = 128 + k := by decide +kernel
  exact h k (by omega)
/-- another number laid in -/
def setS (b : List UInt8) (n : Int) : List UInt8 := match vpR b with
  | (_, s, _, ok) => if ok = false ∨ s = 0 then b else if s = 1 then b.set 2 (byteOf (n % 128)) else (b.set 2 (byteOf (128 + n / 256 % 128))).set 3 (byteOf (n % 256))
theorem setS_len (b : List UInt8) (n : Int) : (setS b n).length = b.length := by
  unfold setS
  split
  repeat' split
  all_goals simp
set_option maxHeartbeats 1000000 in
theorem setR (I : Img) (M : List Res) (w : World) (A : Option Addr) (c : Nat) (b : List UInt8) (n : Int) (hst : St I M w) (hb : Byts I A b) (hl : b.length ≤ 140737488351232) (hn0 : 0 ≤ n) (hn1 : n ≤ 9223372036854775807) :
    Calls Try.prog 33 #[.slice A b.length c, .int .i64 n] w (Ret I (NewB I M (setS b n))) := by
  obtain ⟨i0, hi, hz0, hz1, hz2⟩ := info_parts infoU8
  have hst1 := (hst.alloc 5 #[]).drop
  have Hs := Lib.hid (hb.src hst1 Try.underlying34 c)
  have Ho := Lib.hid (hst.lit0 (e := 5))
  have Hst := Lib.hid hst
  have HB := Lib.hid hb
  clear hst1 hst hb
  go_enter Try.func33, Try.ntmps33
  go_wp2_with (at_builtin; refine wpList_append_src _ rfl _ _ 34 34 rfl w.heap.size 5 i0 (.int .u8 0) 1 1 Try.underlying34 hi hz0 hz1 hz2 rfl _ _ _ rfl Ho.out _ _ _ rfl Hs.out (by unfold maxLen; omega) (by omega) (by simp) ?_)
  intro v' w3 hown' hgrow _
  have hB := ((Below.refl w.heap.size w).alloc (Nat.le_refl _) (.cells #[] 5)).grown hgrow (by simp) (fun k hk => by simp [Value.ownBlock] at hk; omega)
  have hown2 : w3.ownsRow w.heap.size 5 1 v' b.length (bvs b) := by simpa using hown'
  have hst := St.fresh Hst.out (Hst.out.below hB) hown2
  obtain ⟨A', c', rfl⟩ := own_form hown2
  have hcp := (own_cap hown2).2
  clear hown' hown2 hgrow hB hi hz0 hz1 hz2 Hs Ho
  have hcall := vp8r I _ w3 A c b hst HB.out hl
  rcases hv : vpR b with ⟨x, s, t, ok⟩
  rw [hv] at hcall
  simp only [vpV] at hcall
  have hS0 : setS b n = if ok = false ∨ s = 0 then b else if s = 1 then b.set 2 (byteOf (n % 128)) else (b.set 2 (byteOf (128 + n / 256 % 128))).set 3 (byteOf (n % 256)) := by simp only [setS, hv]
  cases ok with
  | false =>
    have HS := Lib.hid (show setS b n = b by rw [hS0]; simp)
    have H3 := Lib.hid hst
    clear hv hS0 hst
    go_wp2_with (go_at_call 28; refine hcall.mono ?_; rintro e w' ⟨rfl, rfl⟩)
    go_returns
    rw [HS.out]
    exact Ret.mk (.refl I) H3.out ⟨rfl, A', c', rfl, hcp, rfl⟩
  | true =>
    obtain ⟨k, rfl, hk, hs⟩ := vpR_lt hv
    rcases hs with rfl | ⟨rfl, rfl, h2⟩ | ⟨rfl, rfl, h3⟩
    · have HS := Lib.hid (show setS b n = b by rw [hS0]; simp)
      have H3 := Lib.hid hst
      clear hv hS0 hst
      go_wp2_with (go_at_call 28; refine hcall.mono ?_; rintro e w' ⟨rfl, rfl⟩)
      go_returns
      rw [HS.out]
      exact Ret.mk (.refl I) H3.out ⟨rfl, A', c', rfl, hcp, rfl⟩
    · have HS := Lib.hid (show setS b n = b.set 2 (byteOf (n % 128)) by rw [hS0]; simp)
      obtain ⟨g, rfl, _, hg, hc, hf⟩ := hst.rowAt (by omega)
      have z2 := hc 2 h2
      have f2 := hf 2
      have h2' : (2 : Int) < b.length := by omega
      have ea := land_mod hn0 hn1
      have eb := Lib.hid (bv_byteOf (n := n % 128) (by omega) (by omega))
      have H3 := Lib.hid hst
      clear hv hS0 hst hc hf
      go_wp2_with (go_at_call 28; refine hcall.mono ?_; rintro e w' ⟨rfl, rfl⟩)
      go_returns
      have h5 := H3.out.rowSet 2 (byteOf (n % 128))
      rw [show Value.int .u8 ((byteOf (n % 128)).toNat : Int) = .int .u8 (n % 128) from eb.out] at h5
      rw [HS.out]
      exact Ret.mk (.refl I) h5 ⟨rfl, some ⟨g, 0, none⟩, c', by simp, by simpa using hcp, by simp⟩
    · have HS := Lib.hid (show setS b n = (b.set 2 (byteOf (128 + n / 256 % 128))).set 3 (byteOf (n % 256)) by rw [hS0]; simp)
      obtain ⟨g, rfl, _, hg, hc, hf⟩ := hst.rowAt (by omega)
      have z2 := hc 2 (by omega)
      have z3 := hc 3 (by omega)
      have f2 := hf 2
      have f3 := hf 3
      have h2' : (2 : Int) < b.length := by omega
      have h3' : (3 : Int) < b.length := by omega
      have ea := land_mod (n := n / 256) (by omega) (by omega)
      have ec := lor128_u8 (n := n / 256 % 128) (by omega) (by omega)
      have eb := Lib.hid (bv_byteOf (n := 128 + n / 256 % 128) (by omega) (by omega))
      have ed := Lib.hid (bv_byteOf (n := n % 256) (by omega) (by omega))
      have H3 := Lib.hid hst
      clear hv hS0 hst hc hf
      go_wp2_with (go_at_call 28; refine hcall.mono ?_; rintro e w' ⟨rfl, rfl⟩)
      go_returns
      have h5 := (H3.out.rowSet 2 (byteOf (128 + n / 256 % 128))).rowSet 3 (byteOf (n % 256))
      rw [show Value.int .u8 ((byteOf (128 + n / 256 % 128)).toNat : Int) = .int .u8 (128 + n / 256 % 128) from eb.out, show Value.int .u8 ((byteOf (n % 256)).toNat : Int) = .int .u8 (n % 256) from ed.out] at h5
      rw [HS.out]
      exact Ret.mk (.refl I) h5 ⟨rfl, some ⟨g, 0, none⟩, c', by simp, by simpa using hcp, by simp⟩
set_option maxHeartbeats 1000000 in
theorem setP (I : Img) (M : List Res) (w : World) (A : Option Addr) (c : Nat) (b : List UInt8) (n : Int) (hst : St I M w) (hb : Byts I A b) (hl : b.length ≤ 140737488351232) (hn0 : 0 ≤ n) (hn1 : n ≤ 9223372036854775807) :
    Calls Try.prog 32 #[.slice A b.length c, .int .i64 n] w (Ret I (fun v _ M' => ∃ A c, v = .slice A (setS b n).length c ∧ (setS b n).length ≤ c ∧ M' = row 5 1 v (setS b n).length (bvs (setS b n)) :: M)) := by
  have HB := Lib.hid hb
  have hcl := clone A c b hst hb hl
  clear hst hb
  rcases hv : vpR b with ⟨x, s, t, ok⟩
  have hS0 : setS b n = if ok = false ∨ s = 0 then b else if s = 1 then b.set 2 (byteOf (n % 128)) else (b.set 2 (byteOf (128 + n / 256 % 128))).set 3 (byteOf (n % 256)) := by simp only [setS, hv]
  cases ok with
  | false =>
    have HS := Lib.hid (show setS b n = b by rw [hS0]; simp)
    obtain ⟨B, A2, N, D, hr⟩ := rdV_no hv
    clear hv hS0
    go_enter Try.func32, Try.ntmps32
    go_wp2_with fail
    refine hcl.mono ?_
    rintro e w1 ⟨_, J, _, rfl, hle, hst, rfl, A1, c1, rfl, hcp, rfl⟩
    have h14 := readP I _ w1 A c b hst HB.out hl
    rw [hr] at h14
    clear hst
    go_wp2_with fail
    refine h14.mono ?_
    rintro e w2 ⟨_, J2, M', rfl, hle2, hst, rfl, rfl⟩
    have H2 := Lib.hid hst
    clear hst
    go_wp2
    go_returns
    rw [HS.out]
    exact Ret.mk hle2 (H2.out.alloc _ _).drop ⟨A1, c1, rfl, hcp, rfl⟩
  | true =>
    have hr := rdV_yes hv
    obtain ⟨k, rfl, hk, hs⟩ := vpR_lt hv
    rcases hs with rfl | ⟨rfl, rfl, h2⟩ | ⟨rfl, rfl, h3⟩
    · have HS := Lib.hid (show setS b n = b by rw [hS0]; simp)
      rw [show bitsN 0 = 0 from rfl] at hr
      clear hv hS0
      go_enter Try.func32, Try.ntmps32
      go_wp2_with fail
      refine hcl.mono ?_
      rintro e w1 ⟨_, J, _, rfl, hle, hst, rfl, A1, c1, rfl, hcp, rfl⟩
      have h14 := readP I _ w1 A c b hst HB.out hl
      rw [hr] at h14
      clear hst
      go_wp2_with fail
      refine h14.mono ?_
      rintro e w2 ⟨_, J2, M', rfl, hle2, hst, rfl, rfl⟩
      have H2 := Lib.hid hst
      clear hst
      go_wp2
      go_returns
      rw [HS.out]
      exact Ret.mk hle2 (H2.out.alloc _ _).drop ⟨A1, c1, rfl, hcp, rfl⟩
    · have HS := Lib.hid (show setS b n = b.set 2 (byteOf (n % 128)) by rw [hS0]; simp)
      rw [show bitsN 1 = 7 from rfl] at hr
      have h2' : (2 : Int) < b.length := by omega
      have ea := land_mod hn0 hn1
      have eb := Lib.hid (bv_byteOf (n := n % 128) (by omega) (by omega))
      clear hv hS0
      go_enter Try.func32, Try.ntmps32
      go_wp2_with fail
      refine hcl.mono ?_
      rintro e w1 ⟨_, J, _, rfl, hle, hst, rfl, A1, c1, rfl, hcp, rfl⟩
      have h14 := readP I _ w1 A c b hst HB.out hl
      rw [hr] at h14
      clear hst
      go_wp2_with fail
      refine h14.mono ?_
      rintro e w2 ⟨_, J2, M', rfl, hle2, hst, rfl, rfl⟩
      obtain ⟨g, rfl, _, hg, hc, hf⟩ := hst.rowAt (by omega)
      have z2 := hc 2 h2
      have f2 := hf 2
      have H2 := Lib.hid hst
      clear hst hc hf
      go_wp2
      go_returns
      have h5 := H2.out.rowSet 2 (byteOf (n % 128))
      rw [show Value.int .u8 ((byteOf (n % 128)).toNat : Int) = .int .u8 (n % 128) from eb.out] at h5
      rw [HS.out]
      exact Ret.mk hle2 (h5.alloc _ _).drop ⟨some ⟨g, 0, none⟩, c1, by simp, by simpa using hcp, by simp⟩
    · have HS := Lib.hid (show setS b n = (b.set 2 (byteOf (128 + n / 256 % 128))).set 3 (byteOf (n % 256)) by rw [hS0]; simp)
      rw [show bitsN 2 = 15 from rfl] at hr
      have h2' : (2 : Int) < b.length := by omega
      have h3' : (3 : Int) < b.length := by omega
      have ea := land_mod (n := n / 256) (by omega) (by omega)
      have ec := lor128_i64 (n := n / 256 % 128) (by omega) (by omega)
      have eb := Lib.hid (bv_byteOf (n := 128 + n / 256 % 128) (by omega) (by omega))
      have ed := Lib.hid (bv_byteOf (n := n % 256) (by omega) (by omega))
      clear hv hS0
      go_enter Try.func32, Try.ntmps32
      go_wp2_with fail
      refine hcl.mono ?_
      rintro e w1 ⟨_, J, _, rfl, hle, hst, rfl, A1, c1, rfl, hcp, rfl⟩
      have h14 := readP I _ w1 A c b hst HB.out hl
      rw [hr] at h14
      clear hst
      go_wp2_with fail
      refine h14.mono ?_
      rintro e w2 ⟨_, J2, M', rfl, hle2, hst, rfl, rfl⟩
      obtain ⟨g, rfl, _, hg, hc, hf⟩ := hst.rowAt (by omega)
      have z2 := hc 2 (by omega)
      have z3 := hc 3 (by omega)
      have f2 := hf 2
      have f3 := hf 3
      have H2 := Lib.hid hst
      clear hst hc hf
      go_wp2
      go_region
      go_wp2
      go_returns
      have h5 := (H2.out.rowSet 2 (byteOf (128 + n / 256 % 128))).rowSet 3 (byteOf (n % 256))
      rw [show Value.int .u8 ((byteOf (128 + n / 256 % 128)).toNat : Int) = .int .u8 (128 + n / 256 % 128) from eb.out, show Value.int .u8 ((byteOf (n % 256)).toNat : Int) = .int .u8 (n % 256) from ed.out] at h5
      rw [HS.out]
      exact Ret.mk hle2 (h5.alloc _ _).drop.drew ⟨some ⟨g, 0, none⟩, c1, by simp, by simpa using hcp, by simp⟩
end Go.Proofs.Ytaemohkmingnpaa
