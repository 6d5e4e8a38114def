/- forward.Flow.time, send. -/
import Derived.Test.YtaemohkmingnpaaFwA
import Derived.Test.YtaemohkmingnpaaFrG
namespace Go.Proofs.Ytaemohkmingnpaa
open Go.RowKit
set_option linter.unusedSimpArgs false

def msS (f : Fl) (now : Int) : Int := if f.moment < now then min (now - f.moment) 10000 else 0
def timeS (f : Fl) (now : Int) : Int := if f.begun then (f.time + max 1 (msS f now * f.clock / 1000)) % 4294967296 else f.time
theorem u64_diff {a b : Int} (ha0 : -9223372036854775808 ≤ a) (ha1 : a ≤ 9223372036854775807) (hb0 : -9223372036854775808 ≤ b) (hb1 : b ≤ 9223372036854775807) (h : b < a) : IntKind.u64.wrap (IntKind.u64.wrap a - IntKind.u64.wrap b) = a - b := by
  simp only [IntKind.wrap, IntKind.signed, IntKind.bits]
  show (a % 18446744073709551616 - b % 18446744073709551616) % 18446744073709551616 = _
  omega
theorem tick_le {d c : Int} (h0 : 0 ≤ d) (h1 : d ≤ 10000) (hc0 : 1 ≤ c) (hc1 : c ≤ 1000000) : 0 ≤ d * c / 1000 ∧ d * c / 1000 ≤ 10000000 := by
  have h2 : d * c ≤ 10000 * 1000000 := Int.mul_le_mul h1 hc1 (by omega) (by omega)
  have h3 : 0 ≤ d * c := Int.mul_nonneg h0 (by omega)
  omega
theorem tick_eq {d c : Int} (h0 : 0 ≤ d) (h1 : d ≤ 10000) (hc0 : 1 ≤ c) (hc1 : c ≤ 1000000) : IntKind.u64.wrap ((IntKind.u64.wrap (d * c)).tdiv 1000) = d * c / 1000 := by
  have h2 : d * c ≤ 10000 * 1000000 := Int.mul_le_mul h1 hc1 (by omega) (by omega)
  have h3 : 0 ≤ d * c := Int.mul_nonneg h0 (by omega)
  generalize d * c = x at *
  simp only [IntKind.wrap, IntKind.signed, IntKind.bits]
  show ((x % 18446744073709551616).tdiv 1000) % 18446744073709551616 = _
  rw [Int.emod_eq_of_lt h3 (by omega), Int.tdiv_eq_ediv_of_nonneg h3]
  omega
set_option maxHeartbeats 1000000 in
theorem timeC (I : Img) (M : List Res) (w : World) (p : Nat) (f : Fl) (now : Int) (hst : St I (bk p 64 (flC f) :: M) w) (hok : f.ok) (hn : -9223372036854775808 ≤ now ∧ now ≤ 9223372036854775807) :
    Calls Try.prog 22 #[.pointer (some ⟨p, 0, none⟩), .int .i64 now] w fun e w' => e = .returned (.int .u32 (timeS f now)) ∧ ∃ n, w' = w.drewN n := by
  obtain ⟨hc, hf, hlt⟩ := Blk.all hst.head
  obtain ⟨⟨hk0, hk1⟩, _, ⟨ht0, ht1⟩, _, _, _, ⟨hm0, hm1⟩, _, _⟩ := hok
  obtain ⟨hn0, hn1⟩ := hn
  obtain ⟨codec, clock, typ, seq, time, source, wanted, layer, broken, begun, last, moment, offset, picture⟩ := f
  simp only at hk0 hk1 ht0 ht1 hm0 hm1
  have HE := Lib.hid (show timeS ⟨codec, clock, typ, seq, time, source, wanted, layer, broken, begun, last, moment, offset, picture⟩ now = if begun then (time + max 1 ((if moment < now then min (now - moment) 10000 else 0) * clock / 1000)) % 4294967296 else time from rfl)
  clear hst
  cases begun
  · go_enter Try.func22, Try.ntmps22
    go_wp2
    go_returns
    exact ⟨ret_eq (by rw [HE.out]; rfl), 0, rfl⟩
  · by_cases hx : moment < now
    · have hd := u64_diff hn0 hn1 hm0 hm1 hx
      rw [if_pos hx] at HE
      by_cases hy : now - moment ≤ 10000
      · have e1 : min (now - moment) 10000 = now - moment := by omega
        rw [e1] at HE
        have hq := tick_eq (d := (now - moment)) (by omega) (by omega) hk0 hk1
        have hb := tick_le (d := (now - moment)) (by omega) (by omega) hk0 hk1
        generalize (now - moment) * clock / 1000 = q at *
        obtain ⟨hb0, hb1⟩ := hb
        by_cases h1 : q ≤ 1
        all_goals
          go_enter Try.func22, Try.ntmps22
          go_wp2
          go_quiet (fail)
          go_wp2
          go_returns
          refine ⟨ret_eq ?_, _, rfl⟩
          rw [HE.out, if_pos trivial]
          show Value.int _ _ = Value.int _ _
          congr 2
          omega
      · have e1 : min (now - moment) 10000 = 10000 := by omega
        rw [e1, show (10000 : Int) * clock / 1000 = 10 * clock by omega, show max 1 (10 * clock) = 10 * clock by omega] at HE
        go_enter Try.func22, Try.ntmps22
        go_wp2
        go_quiet (fail)
        go_wp2
        go_returns
        refine ⟨ret_eq ?_, _, rfl⟩
        rw [HE.out, if_pos trivial]
        show Value.int _ _ = Value.int _ _
        congr 2
        trace_state
        omega
    · rw [if_neg hx] at HE
      go_enter Try.func22, Try.ntmps22
      go_wp2
      go_quiet (fail)
      go_wp2
      go_returns
      exact ⟨ret_eq (by rw [HE.out, Int.zero_mul]; rfl), _, rfl⟩
end Go.Proofs.Ytaemohkmingnpaa
