/- ForwardTimes, the plain law: the times of what is sent never fall. -/
import Derived.Test.YtaemohkmingnpaaFwJ
namespace Go.Proofs.Ytaemohkmingnpaa
open Go.RowKit

structure TInv (k : Nat) (f : Fl) (ss ts : List Int) (last : Int) (sb : Bool) : Prop where
  ok : f.ok
  s4 : ss.length = 4
  t4 : ts.length = 4
  sr : ∀ j (h : j < ss.length), 0 ≤ ss[j] ∧ ss[j] ≤ 65535
  tr : ∀ j (h : j < ts.length), 0 ≤ ts[j] ∧ ts[j] ≤ k * 1048576 ∧ ts[j] ≤ 200 * 1048576
  lr : 0 ≤ last ∧ last ≤ 4294967295
  sb : sb = f.begun
  lay : f.begun = false → f.layer = -1
  at_ : f.begun = true → last = f.time ∧ ∃ (c : Nat) (h : c < ts.length), f.layer = c ∧ ∃ tl, 0 ≤ tl ∧ tl ≤ ts[c] ∧ f.time = (tl + f.offset) % 4294967296
theorem timeS_at {f : Fl} (h : f.ok) (now : Int) (hb : f.begun = true) : ∃ m, 1 ≤ m ∧ m ≤ 10000000 ∧ timeS f now = (f.time + m) % 4294967296 := by
  refine ⟨max 1 ((if f.moment < now then min (now - f.moment) 10000 else 0) * f.clock / 1000), by omega, ?_, by unfold timeS; rw [hb]; rfl⟩
  have h2 := tick_le (d := if f.moment < now then min (now - f.moment) 10000 else 0) (c := f.clock) (by split <;> omega) (by split <;> omega) h.clock.1 h.clock.2
  omega
theorem TInv.pick {k : Nat} {f : Fl} {ss ts : List Int} {last : Int} {sb : Bool} (h : TInv k f ss ts last sb) {n : Int} (hn : n ≤ 9223372036854775807) : TInv (k + 1) (chooseF f n) ss ts last sb := by
  obtain ⟨a1, a2, a3, a4, a5, a6, a7, a8, a9⟩ := h
  have e : (chooseF f n).begun = f.begun ∧ (chooseF f n).layer = f.layer ∧ (chooseF f n).time = f.time ∧ (chooseF f n).offset = f.offset := by unfold chooseF; split <;> exact ⟨rfl, rfl, rfl, rfl⟩
  obtain ⟨e1, e2, e3, e4⟩ := e
  refine ⟨chooseF_ok a1 hn, a2, a3, a4, fun j hj => ?_, a6, by rw [e1]; exact a7, fun hb => by rw [e2]; exact a8 (by rw [← e1]; exact hb), fun hb => ?_⟩
  · have := a5 j hj; push_cast; omega
  · rw [e2, e3, e4]; exact a9 (by rw [← e1]; exact hb)
theorem TInv.same {k : Nat} {f f1 : Fl} {ss ts ss1 ts1 : List Int} {last : Int} {sb : Bool} (h : TInv k f ss ts last sb) {kk : Nat} (hkk : kk < ts.length) {s1 inc : Int} (hk : k < 200) (hs1 : 0 ≤ s1 ∧ s1 ≤ 65535) (hinc : 0 ≤ inc ∧ inc ≤ 1048575)
    (hss : ss1 = ss.set kk s1) (hts : ts1 = ts.set kk (ts[kk] + inc)) (ho : f1.ok) (e1 : f1.begun = f.begun) (e2 : f1.layer = f.layer) (e3 : f1.time = f.time) (e4 : f1.offset = f.offset) : TInv (k + 1) f1 ss1 ts1 last sb := by
  obtain ⟨a1, a2, a3, a4, a5, a6, a7, a8, a9⟩ := h
  subst hss hts
  refine ⟨ho, by simpa using a2, by simpa using a3, fun j hj => ?_, fun j hj => ?_, a6, by rw [e1]; exact a7, fun hb => by rw [e2]; exact a8 (by rw [← e1]; exact hb), fun hb => ?_⟩
  · rw [List.getElem_set]; split
    · exact hs1
    · exact a4 j (by simpa using hj)
  · rw [List.getElem_set]; split
    · have := a5 kk hkk; push_cast; omega
    · have := a5 j (by simpa using hj); push_cast; omega
  · rw [e2, e3, e4]
    obtain ⟨h1, c, hc, h2, tl, h3, h4, h5⟩ := a9 (by rw [← e1]; exact hb)
    refine ⟨h1, c, by simpa using hc, h2, tl, h3, ?_, h5⟩
    rw [List.getElem_set]; split
    · rename_i e; subst e; omega
    · exact h4
/-- what is pushed in a round -/
theorem TInv.push {k : Nat} {f f1 : Fl} {ss ts ss1 ts1 : List Int} {last : Int} {sb : Bool} (h : TInv k f ss ts last sb) {kk : Nat} (hkk : kk < ts.length) {s1 inc : Int} (hk : k < 200) (hs1 : 0 ≤ s1 ∧ s1 ≤ 65535) (hinc : 0 ≤ inc ∧ inc ≤ 1048575)
    (hss : ss1 = ss.set kk s1) (hts : ts1 = ts.set kk (ts[kk] + inc)) {P : Pk} (hP : P.ok) (ht : P.time = ts[kk] + inc) {bs : List UInt8} {now : Int} (hn : -9223372036854775808 ≤ now ∧ now ≤ 9223372036854775807) {s a b : Bool} (hpu : pushS f kk P bs now = (f1, s, a)) :
    (s = false → TInv (k + 1) f1 ss1 ts1 last sb) ∧
    (s = true → TInv (k + 1) (sendS f1 P b now) ss1 ts1 ((P.time + f1.offset) % 4294967296) true ∧ (sb = true → 0 ≤ ((P.time + f1.offset) % 4294967296 - last) % 4294967296 ∧ ((P.time + f1.offset) % 4294967296 - last) % 4294967296 ≤ 2147483647)) := by
  have hok := h.ok
  obtain ⟨hkp, hok1, _⟩ := pushS_ok hpu hok (layer := kk) (by have := h.t4; omega)
  have hfr := pushS_fresh hpu
  refine ⟨fun hs => ?_, fun hs => ?_⟩
  · refine TInv.same h hkk hk hs1 hinc hss hts hok1 hkp.begun (hfr.2 hs) hkp.time ?_
    subst hs
    unfold pushS at hpu
    split at hpu
    · injection hpu with h1 _; rw [← h1]
    · split at hpu
      · split at hpu
        · injection hpu with _ h2; injection h2 with h2 _; cases h2
        · injection hpu with h1 _; rw [← h1]
      · split at hpu
        · injection hpu with h1 _; rw [← h1]
        · split at hpu
          · injection hpu with h1 _; rw [← h1]
          · injection hpu with _ h2; injection h2 with h2 _; cases h2
  · have ok2 := sendS_ok (b := b) hok1 hP hn
    obtain ⟨hl1, _, _⟩ := hfr.1 hs
    have hoff : (f.layer = (kk : Int) ∧ f1.offset = f.offset) ∨ (f.layer ≠ (kk : Int) ∧ f1.offset = (timeS f now - P.time) % 4294967296) := by
      subst hs
      unfold pushS at hpu
      split at hpu
      · injection hpu with _ h2; injection h2 with h2 _; cases h2
      · split at hpu
        · rename_i hne
          split at hpu
          · injection hpu with h1 _; exact .inr ⟨fun e => hne e.symm, by rw [← h1]⟩
          · injection hpu with _ h2; injection h2 with h2 _; cases h2
        · rename_i hne
          have e : f.layer = (kk : Int) := by omega
          split at hpu
          · injection hpu with _ h2; injection h2 with h2 _; cases h2
          · split at hpu
            · injection hpu with _ h2; injection h2 with h2 _; cases h2
            · injection hpu with h1 _; exact .inl ⟨e, by rw [← h1]⟩
    obtain ⟨a1, a2, a3, a4, a5, a6, a7, a8, a9⟩ := h
    refine ⟨⟨ok2, by rw [hss]; simpa using a2, by rw [hts]; simpa using a3, fun j hj => ?_, fun j hj => ?_, by omega, rfl, fun hb => (by cases hb), fun _ => ⟨rfl, kk, by rw [hts]; simpa using hkk, ?_, P.time, ?_, ?_, ?_⟩⟩, fun hsb => ?_⟩
    · subst hss
      rw [List.getElem_set]; split
      · exact hs1
      · exact a4 j (by simpa using hj)
    · subst hts
      rw [List.getElem_set]; split
      · have := a5 kk hkk; push_cast; omega
      · have := a5 j (by simpa using hj); push_cast; omega
    · show (picF f1 b).layer = _; rw [picF_layer]; exact hl1
    · exact hP.time.1
    · subst hts; rw [List.getElem_set_self]; omega
    · show (P.time + f1.offset) % 4294967296 = (P.time + (picF f1 b).offset) % 4294967296; rw [picF_offset]
    · have hbg : f.begun = true := by rw [← a7]; exact hsb
      obtain ⟨e1, c, hc, e2, tl, e3, e4, e5⟩ := a9 hbg
      refine ⟨by omega, ?_⟩
      rcases hoff with ⟨h1, h2⟩ | ⟨h1, h2⟩
      · have ec : c = kk := by omega
        subst ec
        have := a5 c hkk
        rw [e1, e5, h2, ht]
        omega
      · obtain ⟨mm, m1, m2, m3⟩ := timeS_at hok now hbg
        rw [e1, h2, m3]
        omega
end Go.Proofs.Ytaemohkmingnpaa
