/- rostrumlaw23.RoomNil. -/
import Derived.Test.YtbaobonlolbnpaaRoL
namespace Go.Proofs.Ytbaobonlolbnpaa
open Go.RowKit
set_option linter.unusedSimpArgs false

structure OpV where
  kind : Int
  n : Int
  m : Int
  l : Int
  text : ByteArray
  room : ByteArray
  user : ByteArray
  til : Int
  rights : Int
abbrev opC (o : OpV) : Array Value := #[.int .i64 o.kind, .int .i64 o.n, .int .i64 o.m, .int .i64 o.l, .string o.text, .string o.room, .string o.user, .int .i64 o.til, .int .i64 o.rights]
def TrueV (v : Value) (_ : Img) (_ : List Res) : Prop := v = .bool true
set_option maxRecDepth 8000 in
set_option maxHeartbeats 8000000 in
theorem law7 (I : Img) (M : List Res) (w : World) (o : OpV) (hst : St I M w) :
    Calls Try.prog 7 #[.agg (opC o)] w (Ret I TrueV) := by
  have hs := hst.alloc 32 (opC o)
  obtain ⟨hc, hf, hl⟩ := Blk.all (hs.at 0 rfl)
  have HS := Lib.hid hs
  clear hst hs
  go_enter Try.func7, Try.ntmps7
  go_wp2_with (first | (go_at_call 8; refine (awakeC _ _ _ HS.out).mono ?_; rintro e w2 ⟨_, _, _, rfl, _, hs, rfl, rfl, rfl⟩; replace HS := Lib.hid hs; clear hs hc hf hl; obtain ⟨hc, hf, hl⟩ := Blk.all (HS.out.at 0 rfl)) | (go_at_call 23; refine (claimsC _ _ _ _ _ _ _ HS.out).mono ?_; rintro e w2 ⟨_, _, _, rfl, _, hs, rfl, rfl, rfl⟩; replace HS := Lib.hid hs; clear hs hc hf hl; obtain ⟨hc, hf, hl⟩ := Blk.all (HS.out.at 0 rfl)) | (go_at_call 17; refine (nilJoin _ _ _ _ _).mono ?_; rintro e w2 ⟨rfl, hb⟩; replace HS := Lib.hid (HS.out.below hb); clear hb hc hf hl; obtain ⟨hc, hf, hl⟩ := Blk.all (HS.out.at 0 rfl)) | (go_at_call 24; refine (nilPublish _ _ _ _).mono ?_; rintro e w2 ⟨rfl, hb⟩; replace HS := Lib.hid (HS.out.below hb); clear hb hc hf hl; obtain ⟨hc, hf, hl⟩ := Blk.all (HS.out.at 0 rfl)) | (go_at_call 14; refine (nilRoom _ _).mono ?_; rintro e w2 ⟨rfl, hb⟩; replace HS := Lib.hid (HS.out.below hb); clear hb hc hf hl; obtain ⟨hc, hf, hl⟩ := Blk.all (HS.out.at 0 rfl)) | (go_at_call 15; refine (nilLeave _ _).mono ?_; rintro e w2 ⟨rfl, hb⟩; replace HS := Lib.hid (HS.out.below hb); clear hb hc hf hl; obtain ⟨hc, hf, hl⟩ := Blk.all (HS.out.at 0 rfl)) | (go_at_call 25; refine (nilUnpublish _ _).mono ?_; rintro e w2 ⟨rfl, hb⟩; replace HS := Lib.hid (HS.out.below hb); clear hb hc hf hl; obtain ⟨hc, hf, hl⟩ := Blk.all (HS.out.at 0 rfl)) | (go_at_call 26; refine (nilSubscribe _ _ _ _).mono ?_; rintro e w2 ⟨rfl, hb⟩; replace HS := Lib.hid (HS.out.below hb); clear hb hc hf hl; obtain ⟨hc, hf, hl⟩ := Blk.all (HS.out.at 0 rfl)) | (go_at_call 27; refine (nilUnsubscribe _ _ _).mono ?_; rintro e w2 ⟨rfl, hb⟩; replace HS := Lib.hid (HS.out.below hb); clear hb hc hf hl; obtain ⟨hc, hf, hl⟩ := Blk.all (HS.out.at 0 rfl)) | (go_at_call 12; refine (nilMembers _ _).mono ?_; rintro e w2 ⟨rfl, hb⟩; replace HS := Lib.hid (HS.out.below hb); clear hb hc hf hl; obtain ⟨hc, hf, hl⟩ := Blk.all (HS.out.at 0 rfl)) | (go_at_call 13; refine (nilTracks _ _).mono ?_; rintro e w2 ⟨rfl, hb⟩; replace HS := Lib.hid (HS.out.below hb); clear hb hc hf hl; obtain ⟨hc, hf, hl⟩ := Blk.all (HS.out.at 0 rfl)) | (go_at_call 16; refine (nilSubs _ _).mono ?_; rintro e w2 ⟨rfl, hb⟩; replace HS := Lib.hid (HS.out.below hb); clear hb hc hf hl; obtain ⟨hc, hf, hl⟩ := Blk.all (HS.out.at 0 rfl)) | (go_at_call 18; refine (nilRights _ _).mono ?_; rintro e w2 ⟨rfl, hb⟩; replace HS := Lib.hid (HS.out.below hb); clear hb hc hf hl; obtain ⟨hc, hf, hl⟩ := Blk.all (HS.out.at 0 rfl)))
  go_returns
  exact Ret.mk (.refl I) HS.out rfl
end Go.Proofs.Ytbaobonlolbnpaa
