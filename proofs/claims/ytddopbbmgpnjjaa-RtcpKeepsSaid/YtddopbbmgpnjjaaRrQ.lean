/- RtcpBack: what is built comes back, what is read builds again. -/
import Derived.Test.YtddopbbmgpnjjaaRrM
import Derived.Test.YtddopbbmgpnjjaaRrN
import Derived.Test.YtddopbbmgpnjjaaRrO
import Derived.Test.YtddopbbmgpnjjaaRdM
namespace Go.Proofs.Ytddopbbmgpnjjaa
open Go.RowKit
set_option linter.unusedSimpArgs false

theorem tl_of {I : Img} {A : Option Addr} {qs : List (Pk × Vs)} (h : Pks I A qs) (hb : Built (pks qs)) : TL ((pks qs).flatMap packB) (pks qs) :=
  ⟨hb, fun p hp => by
    obtain ⟨x, hx, rfl⟩ := List.mem_map.1 hp
    exact (h.each x hx).2.ok (hb.2.2.1 _ hp), rfl⟩
theorem built_len {qs : List (Pk × Vs)} (hb : Built (pks qs)) : qs.length * 192 ≤ 140737488351232 := by
  have := hb.1.2
  rw [List.length_map] at this
  omega
set_option maxRecDepth 100000 in
set_option maxHeartbeats 20000000 in
theorem law5 (I : Img) (M : List Res) (w : World) (A : Option Addr) (z : Nat) (ps : List (Pk × Vs)) (hp : Pks I A ps) (hlen : ps.length * 192 ≤ 140737488351232) (B : Option Addr) (c : Nat) (bs : List UInt8) (hbs : Byts I B bs) (hbl : bs.length ≤ 140737488351232) (hst : St I M w) :
    Calls Try.prog 5 #[.slice A ps.length z, .slice B bs.length c] w (Yes I M) := by
  have HP := Lib.hid (And.intro hp hlen)
  have HB := Lib.hid (And.intro hbs hbl)
  have HA := Lib.hid (awakeC I M w hst)
  clear hp hlen hbs hbl hst
  go_enter Try.func5, Try.ntmps5
  go_wp2_with fail
  go_at_call 9
  refine HA.out.mono ?_
  clear HA
  rintro e w1 ⟨J1, rfl, hle1, hs1⟩
  have HC := Lib.hid (theirsC J1 M w1 A z ps (HP.out.1.mono hle1) HP.out.2 hs1)
  have HLE := Lib.hid hle1
  clear hle1 hs1
  go_wp2_with fail
  go_at_call 12
  refine HC.out.mono ?_
  clear HC
  rintro e w2 ⟨J2, C, cc, qs, rfl, hle2, hs2, hq, hqe⟩
  have HC := buildC J2 M w2 C cc qs hq hs2
  rw [show qs.length = ps.length by have := congrArg List.length hqe; simpa [pks] using this] at HC
  have HC := Lib.hid HC
  have HLE := Lib.hid (HLE.out.trans hle2)
  have HQ := Lib.hid (And.intro hq hqe)
  clear hle2 hs2 hq hqe
  go_wp2_with fail
  go_at_call 11
  refine HC.out.mono ?_
  clear HC
  rintro e w3 ⟨_, J3, M3, rfl, hle3, hs3, hbt⟩
  have HLE := Lib.hid (HLE.out.trans hle3)
  rcases hbt with ⟨hbt, u, rfl, rfl⟩ | ⟨hbt, rfl, hM3⟩
  · skip
    obtain ⟨U, uc, rfl⟩ := own_form (show World.ownsRow _ 0 5 1 u _ _ from hs3.at 0 rfl)
    obtain ⟨J4, hle4, hs4, hby⟩ := hs3.freezeRow
    have hby : Byts J4 U ((pks qs).flatMap packB) := hby
    have HLE := Lib.hid (HLE.out.trans hle4)
    have HC := Lib.hid (parseC J4 M w3 U uc _ hby (by have := hbt.2.2.2; omega) hs4)
    have HBT := Lib.hid hbt
    have HTL := Lib.hid (tl_of HQ.out.1 hbt)
    obtain ⟨ob, hob⟩ : ∃ z, z = (pks qs).flatMap packB := ⟨_, rfl⟩
    rw [← hob] at HC HTL ⊢
    clear hs3 hle4 hs4 hby hbt hle3 hob
    go_wp2_with fail
    go_at_call 14
    refine HC.out.mono ?_
    clear HC
    rintro e w5 ⟨J5, hle5, hs5, h5⟩
    rcases h5 with ⟨_, hn⟩ | ⟨D, dc, gs, rfl, hgs, _, hbt5, hby5, _, _, huni⟩
    case inl => exact absurd HTL.out (hn _)
    have hge := huni _ HTL.out
    have HLE := Lib.hid (HLE.out.trans hle5)
    have HC := Lib.hid (oursC J5 M w5 D dc gs hgs (built_len hbt5) hs5)
    have HGE := Lib.hid hge
    clear hs5 hle5 hgs hbt5 hby5 huni hge
    go_wp2_with fail
    go_at_call 16
    refine HC.out.mono ?_
    clear HC
    rintro e w6 ⟨J6, E, ec, os, rfl, hle6, hs6, ho, hoe⟩
    have HLE := Lib.hid (HLE.out.trans hle6)
    have HC := sameC J6 M w6 E A ec z os ps ho (HP.out.1.mono HLE.out) hs6
    rw [show os.length = gs.length by have := congrArg List.length hoe; simpa [pks] using this] at HC
    have HC := Lib.hid HC
    have HEQ := Lib.hid (show pks os = pks ps from (hoe.trans HGE.out.symm).trans HQ.out.2)
    clear hs6 hle6 ho hoe
    go_wp2_with fail
    go_at_call 15
    refine HC.out.mono ?_
    clear HC
    rintro e w7 ⟨_, J7, M7, rfl, hle7, hs7, hJ7, ⟨t, rfl, ht⟩, hM7⟩
    obtain rfl : t = true := ht.2 HEQ.out
    rw [hM7] at hs7
    have HLE := Lib.hid (HLE.out.trans hle7)
    have HS := Lib.hid hs7
    clear hs7 hle7 hJ7 hM7 ht
    have HC := Lib.hid (parseC _ M w7 B c bs (HB.out.1.mono HLE.out) HB.out.2 HS.out)
    clear HS
    go_wp2_with fail
    go_at_call 14
    refine HC.out.mono ?_
    clear HC
    rintro e w8 ⟨J8, hle8, hs8, h8⟩
    have HLE := Lib.hid (HLE.out.trans hle8)
    clear hle8
    rcases h8 with ⟨rfl, _⟩ | ⟨D, dc, gs, rfl, hgs, _, hbt8, hby8, _, _, _⟩
    · have HF := Lib.hid (show Yes I M (.returned (.bool true)) w8 from Ret.mk HLE.out hs8 ⟨rfl, rfl⟩)
      clear hs8
      go_wp2
      go_returns
      exact HF.out
    · have HC := Lib.hid (buildC J8 M w8 D dc gs hgs hs8)
      have HG := Lib.hid (And.intro hbt8 hby8)
      clear hgs hs8 hbt8 hby8
      go_wp2_with fail
      go_at_call 11
      refine HC.out.mono ?_
      clear HC
      rintro e w9 ⟨_, J9, _, rfl, hle9, hs9, hbt9⟩
      have HLE := Lib.hid (HLE.out.trans hle9)
      rcases hbt9 with ⟨_, u9, rfl, rfl⟩ | ⟨hn, _⟩
      case inr => exact absurd HG.out.1 hn
      obtain ⟨U, uc, rfl⟩ := own_form (show World.ownsRow _ 0 5 1 u9 _ _ from hs9.at 0 rfl)
      rw [HG.out.2] at hs9 ⊢
      obtain ⟨J10, hle10, hs10, hby⟩ := hs9.freezeRow
      have hby : Byts J10 U bs := hby
      have hv1 := hby.conv hs10 Try.underlying24 Try.underlying5 Try.underlying9 uc
      have hv2 := (HB.out.1.mono (HLE.out.trans hle10)).conv hs10 Try.underlying24 Try.underlying5 Try.underlying9 c
      have HF := Lib.hid (show Yes I M (.returned (.bool true)) w9 from Ret.mk (HLE.out.trans hle10) hs10 ⟨rfl, rfl⟩)
      clear hs9 hs10 hby hle9 hle10
      go_wp2
      go_returns
      exact HF.out
  · skip
    rw [hM3] at hs3
    have HS := Lib.hid hs3
    clear hs3 hle3 hbt hM3
    have HC := Lib.hid (parseC _ M w3 B c bs (HB.out.1.mono HLE.out) HB.out.2 HS.out)
    clear HS
    go_wp2_with fail
    go_at_call 14
    refine HC.out.mono ?_
    clear HC
    rintro e w8 ⟨J8, hle8, hs8, h8⟩
    have HLE := Lib.hid (HLE.out.trans hle8)
    clear hle8
    rcases h8 with ⟨rfl, _⟩ | ⟨D, dc, gs, rfl, hgs, _, hbt8, hby8, _, _, _⟩
    · have HF := Lib.hid (show Yes I M (.returned (.bool true)) w8 from Ret.mk HLE.out hs8 ⟨rfl, rfl⟩)
      clear hs8
      go_wp2
      go_returns
      exact HF.out
    · have HC := Lib.hid (buildC J8 M w8 D dc gs hgs hs8)
      have HG := Lib.hid (And.intro hbt8 hby8)
      clear hgs hs8 hbt8 hby8
      go_wp2_with fail
      go_at_call 11
      refine HC.out.mono ?_
      clear HC
      rintro e w9 ⟨_, J9, _, rfl, hle9, hs9, hbt9⟩
      have HLE := Lib.hid (HLE.out.trans hle9)
      rcases hbt9 with ⟨_, u9, rfl, rfl⟩ | ⟨hn, _⟩
      case inr => exact absurd HG.out.1 hn
      obtain ⟨U, uc, rfl⟩ := own_form (show World.ownsRow _ 0 5 1 u9 _ _ from hs9.at 0 rfl)
      rw [HG.out.2] at hs9 ⊢
      obtain ⟨J10, hle10, hs10, hby⟩ := hs9.freezeRow
      have hby : Byts J10 U bs := hby
      have hv1 := hby.conv hs10 Try.underlying24 Try.underlying5 Try.underlying9 uc
      have hv2 := (HB.out.1.mono (HLE.out.trans hle10)).conv hs10 Try.underlying24 Try.underlying5 Try.underlying9 c
      have HF := Lib.hid (show Yes I M (.returned (.bool true)) w9 from Ret.mk (HLE.out.trans hle10) hs10 ⟨rfl, rfl⟩)
      clear hs9 hs10 hby hle9 hle10
      go_wp2
      go_returns
      exact HF.out
end Go.Proofs.Ytddopbbmgpnjjaa
