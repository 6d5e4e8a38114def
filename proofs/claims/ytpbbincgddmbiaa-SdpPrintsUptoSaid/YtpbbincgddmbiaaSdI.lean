/- the awake test; SdpLimits; SdpLines. -/
import Derived.Test.YtpbbincgddmbiaaSdG
import Derived.Test.YtpbbincgddmbiaaSdH
namespace Go.Proofs.Ytpbbincgddmbiaa
open Go.RowKit
set_option linter.unusedSimpArgs false

def awakeL : List UInt8 := [118, 61, 48, 13, 10, 111, 61, 120, 13, 10, 115, 61, 45, 13, 10, 116, 61, 48, 32, 48, 13, 10, 97, 61, 98, 58, 99, 13, 10, 109, 61, 100, 13, 10]
abbrev awakeX : Ss := ⟨bsA [120], bsA [45], bsA [48, 32, 48], [⟨bsA [98], bsA [99]⟩], [⟨bsA [100], ⟨#[]⟩, []⟩]⟩
theorem awake_law : parseS awakeL = (awakeX, 0, 0) := by
  rw [parseS_go (by decide)]
  have e : awakeL = headL ++ ([97, 61, 98, 58, 99] ++ 13 :: 10 :: ([109, 61, 100] ++ 13 :: 10 :: [])) := rfl
  rw [e, goS_head, goS_step _ (by decide), step_a (by omega), if_neg (by rw [show (attrS [98, 58, 99]).2 = true by kernel_rfl]; decide), if_neg (by decide)]
  dsimp only
  rw [goS_step _ (by decide), step_m (by omega) _ _ _ (by kernel_rfl), if_neg (by decide)]
  dsimp only
  rw [goS_nil, if_neg (by omega)]
  have h : attrS [98, 58, 99] = (⟨bsA [98], bsA [99]⟩, true) := by kernel_rfl
  rw [h]
  rfl
set_option maxRecDepth 8000 in
set_option maxHeartbeats 4000000 in
theorem awakeP (I : Img) (M : List Res) (w : World) (m : Int) (hst : St I M w) (hm : I.cell? ⟨0, 0, none⟩ = some (.int .i64 m)) : Calls Try.prog 8 #[] w (Yes I M) := by
  have hc := parseP I M w ⟨#[118, 61, 48, 13, 10, 111, 61, 120, 13, 10, 115, 61, 45, 13, 10, 116, 61, 48, 32, 48, 13, 10, 97, 61, 98, 58, 99, 13, 10, 109, 61, 100, 13, 10]⟩ m hst hm (by decide)
  rw [show (⟨#[118, 61, 48, 13, 10, 111, 61, 120, 13, 10, 115, 61, 45, 13, 10, 116, 61, 48, 32, 48, 13, 10, 97, 61, 98, 58, 99, 13, 10, 109, 61, 100, 13, 10]⟩ : ByteArray).data.toList = awakeL from rfl, awake_law] at hc
  have HC := Lib.hid hc
  clear hc hst hm
  go_enter Try.func8, Try.ntmps8
  go_wp2_with (go_at_call 10; refine HC.out.mono ?_; clear HC; rintro e w2 ⟨_, _, _, rfl, _, hs2, rfl, vA, vP, pv, hpv, rfl, rfl⟩; have hpl : pv.length = 1 := (by have := congrArg List.length hpv; simpa [partsOf, awakeX] using this); obtain ⟨aA, cA, rfl⟩ := own_form (show World.ownsRow _ 0 49 2 vA 1 _ from hs2.at 1 rfl); obtain ⟨g, rfl, hg, hcA⟩ := own_form2 (show World.ownsRow _ 0 49 2 _ 1 [.string (bsA [98]), .string (bsA [99])] from hs2.at 1 rfl) (by decide); have y1 : w2.cell? ⟨g, 1, none⟩ = some (.string (bsA [99])) := own_at1 (show World.ownsRow _ 0 49 2 _ 1 [.string (bsA [98]), .string (bsA [99])] from hs2.at 1 rfl) 1 (by decide); obtain ⟨aP, cP, rfl⟩ := own_form (show World.ownsRow _ 0 66 3 vP _ _ from hs2.at 0 rfl); have HS := Lib.hid hs2; clear hs2 hpv; rw [hpl]; clear hpl)
  go_returns
  exact Ret.mk (.refl I) ((St.dropAll _ HS.out.drop.drop).grow _) ⟨rfl, rfl⟩
end Go.Proofs.Ytpbbincgddmbiaa
