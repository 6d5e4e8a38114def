/- strings.Builder: WriteByte. -/
import Derived.Test.YtakgdmcekhafoaaDoorBu
namespace Go.Proofs.YtakgdmcekhafoaaDoor
open Go.RowKit
set_option linter.unusedSimpArgs false

set_option maxRecDepth 8000 in
set_option maxHeartbeats 1000000 in
theorem writeByteC (I : Img) (M N : List Res) (w : World) (B b : Nat) (bs : List UInt8) (x : UInt8) (hst : St I N w) (hb : Bld B b bs M N) (hB : B ≤ b) (hlen : bs.length + 1 ≤ 140737488355328) :
    Calls Tryd.prog 51 #[.pointer (some ⟨b, 0, none⟩), .int .u8 x.toNat] w (Ret I (fun _ J N' => I = J ∧ Bld B b (bs ++ [x]) M N')) := by
  obtain ⟨p, v, hp, hlow, rfl⟩ := hb
  have HC := Lib.hid (checkC I _ w b p v hp hst)
  obtain ⟨i0, hi, hz0, hz1, hz2⟩ := info_parts infoU8
  have HLOW := Lib.hid hlow
  clear hst hp hlow
  go_enter Tryd.func51, Tryd.ntmps51
  go_upto_region 2 with (go_at_call 71; refine HC.out.mono ?_; clear HC; rintro e w2 ⟨_, _, _, rfl, _, hs, rfl, rfl⟩; have HS1 := Lib.hid (hs.grow (.cells #[bv x] 5)); have HSRC := Lib.hid (hs.litSrc (P := Tryd.prog) (t := 22) (e := 5) (cs := #[bv x]) [x] rfl Tryd.underlying22); obtain ⟨A, c, rfl⟩ := own_form (show World.ownsRow _ 0 5 1 v _ _ from hs.at 1 rfl); obtain ⟨h0, h1, hf0, hf1, hlt⟩ := Blk.two (show Blk w2 b 82 #[_, _] from hs.at 0 rfl); clear hs)
  go_wp2_with (at_builtin; (refine wpList_append_src _ rfl _ _ 22 22 rfl 0 5 i0 (.int .u8 0) 1 1 Tryd.underlying22 hi hz0 hz1 hz2 rfl _ bs.length (bvs bs) rfl (HS1.out.at 1 rfl) _ 1 _ rfl HSRC.out (by unfold maxLen; omega) (by omega) (Nat.zero_le _) ?_))
  intro v' w' hown hgrow hat
  obtain ⟨B', c', rfl⟩ := own_form hown
  have hlz : bs.length + 1 = (bs ++ [x]).length := by rw [List.length_append]; rfl
  have hown2 : w'.ownsRow 0 5 1 (.slice B' (bs.length + 1) c') (bs ++ [x]).length (bvs (bs ++ [x])) := by rw [bvs_append, ← hlz]; exact hown
  have hs3 := (HS1.out.swap1.grown hgrow hown2 (by rw [World.size_alloc]; exact hat)).swap1
  have hl2 : ∀ g, (Value.slice B' (bs.length + 1) c').ownBlock = some g → B ≤ g := fun g hg => by
    rcases hat with h | h
    · exact HLOW.out g (h.symm.trans hg)
    · rw [h] at hg
      injection hg with hg
      omega
  clear h0 h1 hf0 hf1 hlt
  obtain ⟨h0, h1, hf0, hf1, hlt⟩ := Blk.two (show Blk w' b 82 #[_, _] from hs3.at 0 rfl)
  have HS3 := Lib.hid hs3
  have HL2 := Lib.hid hl2
  clear hown hown2 hgrow hat hs3 hl2 hlz
  go_wp2
  go_returns
  exact Ret.mk (.refl I) (HS3.out.set 1 _) ⟨rfl, _, _, .inr rfl, HL2.out, rfl⟩
end Go.Proofs.YtakgdmcekhafoaaDoor
