/- TokenMakes: the law. -/
import Derived.Test.YtakgdmcekhafoaaDoorToU
namespace Go.Proofs.YtakgdmcekhafoaaDoor
open Go.RowKit
set_option linter.unusedSimpArgs false

set_option maxRecDepth 8000 in
set_option maxHeartbeats 2000000 in
theorem law3 (I : Img) (M : List Res) (w : World) (KA : Option Addr) (kc : Nat) (kb : List UInt8) (c : Cl) (hst : St I M w) (hk : Byts I KA kb) (hkl : kb.length ≤ 140737488351232) (ht : Tab10 I) (hc : ClSz c) :
    Calls Tryd.prog 3 #[.slice KA kb.length kc, .agg (clC c)] w (Ret I (fun v _ _ => v = .bool true)) := by
  have hs := hst.alloc 24 (clC c)
  obtain ⟨b1, hb1⟩ : ∃ b, b = w.heap.size := ⟨_, rfl⟩
  rw [← hb1] at hs
  clear hst
  go_enter Tryd.func3, Tryd.ntmps3
  go_upto_region 1 with fail
  rw [← hb1]
  clear hb1
  generalize World.alloc _ _ = W at hs ⊢
  have HC := Lib.hid (awakeP I _ W hs ht)
  clear hs
  go_wp2_with fail
  go_at_call 8
  refine HC.out.mono ?_
  rintro e w1 ⟨_, J1, _, rfl, hl1, hs, rfl, rfl⟩
  clear HC
  have HC := Lib.hid (makeRf J1 _ w1 KA kc kb c hs (hk.mono hl1) hkl hc)
  obtain ⟨y0, y1, y2, y3⟩ := clK (show Blk _ b1 24 (clC c) from hs.head)
  clear hs
  go_wp2_with fail
  go_at_call 9
  refine HC.out.mono ?_
  rintro e w2 ⟨_, J2, _, rfl, hl2, hs, rfl, rfl⟩
  clear HC y0 y1 y2 y3
  have HC := Lib.hid (claimsP J2 _ w2 c hs)
  obtain ⟨y0, y1, y2, y3⟩ := clK (show Blk _ b1 24 (clC c) from hs.head)
  have HS := Lib.hid hs
  clear hs
  go_wp2_with fail
  go_at_call 11
  refine HC.out.mono ?_
  rintro e w3 ⟨_, _, _, rfl, _, hs, rfl, rfl, rfl⟩
  clear HC HS y0 y1 y2 y3
  have HC := Lib.hid (makeP J2 _ w3 KA kc kb c hs (hk.mono (hl1.trans hl2)) hkl (ht.mono (hl1.trans hl2)) hc)
  clear hs
  go_wp2_with fail
  go_at_call 10
  refine HC.out.mono ?_
  rintro e w4 ⟨_, J3, _, rfl, hl3, hs, rfl, rfl⟩
  have HL := Lib.hid (hl1.trans (hl2.trans hl3))
  have HS := Lib.hid hs
  clear HC hs hl1 hl2 hl3
  generalize bsA (makeR kb c).1 = s
  generalize (makeR kb c).2 = n
  have heq : (s.toList == s.toList) = true := by simp
  go_wp2
  go_ret
  exact Ret.mk HL.out HS.out rfl
end Go.Proofs.YtakgdmcekhafoaaDoor
