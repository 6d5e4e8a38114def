/- room.House: Unpublish, Unsubscribe. -/
import Derived.Test.YtbaobonlolbnpaaRoH
namespace Go.Proofs.Ytbaobonlolbnpaa
open Go.RowKit
set_option linter.unusedSimpArgs false

def HQ (p : Nat) (M : List Res) (r : Ho × Int) (v : Value) (M' : List Res) : Prop := v = .int .i64 r.2 ∧ ∃ vM' vT' vS', M' = hou p r.1 vM' vT' vS' M
def unpubS (h : Ho) (id : Int) : Ho × Int :=
  if trk? h id = none then (h, 7) else ({ h with ts := h.ts.filter (fun t => !(t.id == id)), ss := h.ss.filter (fun s => !(s.track == id)) }, 0)
def unsubS (h : Ho) (id track : Int) : Ho × Int :=
  if (h.ss.filter (fun s => !(s.member == id && s.track == track))).length = h.ss.length then (h, 7) else ({ h with ss := h.ss.filter (fun s => !(s.member == id && s.track == track)) }, 0)
set_option maxRecDepth 8000 in
set_option maxHeartbeats 4000000 in
theorem unpublishC (I : Img) (M : List Res) (w : World) (p : Nat) (h : Ho) (vM vT vS : Value) (id : Int) (hst : St I (hou p h vM vT vS M) w) (hlt : h.ts.length ≤ 1000000) (hls : h.ss.length ≤ 1000000) :
    Calls Try.prog 25 #[.pointer (some ⟨p, 0, none⟩), .int .i64 id] w (Ret I (fun v J M' => I = J ∧ HQ p M (unpubS h id) v M')) := by
  have hs1 := (hst.alloc 3 #[.int .i64 id]).dn4
  obtain ⟨z0, _, hb1⟩ := Blk.one (hs1.at 4 rfl)
  have hm := trackC I _ _ p h vM vT vS id hs1 (by omega)
  have H1 := Lib.hid hs1
  clear hst hs1
  go_enter Try.func25, Try.ntmps25
  go_wp2_with fail
  refine hm.mono ?_
  rintro e w' ⟨hw', r, rfl, hr2⟩
  subst w'
  rcases hr2.find H1.out with ⟨hf, rfl⟩ | ⟨m, g, o, hf, rfl, hg, hcell⟩
  · have HE := Lib.hid (show unpubS h id = (h, 7) by unfold unpubS; rw [if_pos hf])
    clear hm hr2 hf
    go_wp2
    go_returns
    refine Ret.mk (.refl I) H1.out.up4.drop ⟨rfl, ⟨by rw [HE.out]; rfl, vM, vT, vS, by rw [HE.out]⟩⟩
  have HE := Lib.hid (show unpubS h id = ({ h with ts := h.ts.filter (fun t => !(t.id == id)), ss := h.ss.filter (fun s => !(s.track == id)) }, 0) by unfold unpubS; rw [if_neg (by rw [hf]; simp)])
  clear hm hr2 hf hcell hg
  obtain ⟨A, c, rfl⟩ := own_form (show World.ownsRow _ 0 47 4 vT _ _ from H1.out.at 1 rfl)
  obtain ⟨B, cb, rfl⟩ := own_form (show World.ownsRow _ 0 49 3 vS _ _ from H1.out.at 2 rfl)
  obtain ⟨hcP, hfP, hlP⟩ := Blk.all (H1.out.at 3 rfl)
  have hd := delTC I _ _ A c 48 #[.pointer (some ⟨w.heap.size, 0, none⟩)] h.ts (fun t => t.id == id) eg48 (fun g cur W hW x _ => c48 W x _ id (Blk.one (hW.at 4 rfl)).1) H1.out.swap1 hlt
  go_wp2_with fail
  refine hd.mono ?_
  rintro e w2 ⟨v, J, M', rfl, hle, hs2, rfl, rfl, rfl⟩
  obtain ⟨ts', hts⟩ : ∃ l, l = h.ts.filter (fun t => !(t.id == id)) := ⟨_, rfl⟩
  rw [← hts] at hs2 HE ⊢
  have H2 := Lib.hid hs2.swap1
  clear hs2 hd hcP hfP hlP H1 z0 hb1 hts hle
  obtain ⟨hcP, hfP, hlP⟩ := Blk.all (H2.out.at 3 rfl)
  go_upto_region 6 with fail
  have hs3 := H2.out.set3 1 (.slice A ts'.length c)
  generalize World.setCell _ _ _ = W at hs3 ⊢
  have hs3 : St I (hou p { h with ts := ts' } vM (.slice A ts'.length c) (.slice B h.ss.length cb) (bk w.heap.size 3 #[.int .i64 id] :: M)) W := hs3
  have H3 := Lib.hid hs3
  clear hs3 hcP hfP hlP H2
  obtain ⟨hcP, hfP, hlP⟩ := Blk.all (H3.out.at 3 rfl)
  have hd := delSC I _ _ B cb 49 #[.pointer (some ⟨w.heap.size, 0, none⟩)] h.ss (fun t => t.track == id) eg49 (fun g cur W hW x _ => c49 W x _ id (Blk.one (hW.at 4 rfl)).1) H3.out.swap2 hls
  go_wp2_with fail
  refine hd.mono ?_
  rintro e w4 ⟨v, J, M', rfl, hle, hs2, rfl, rfl, rfl⟩
  obtain ⟨ss', hss⟩ : ∃ l, l = h.ss.filter (fun t => !(t.track == id)) := ⟨_, rfl⟩
  rw [← hss] at hs2 HE ⊢
  have H4 := Lib.hid hs2.swap2
  clear hs2 hd hcP hfP hlP H3 hss hle
  obtain ⟨hcP, hfP, hlP⟩ := Blk.all (H4.out.at 3 rfl)
  go_upto_region 7 with fail
  have hs5 := H4.out.set3 2 (.slice B ss'.length cb)
  generalize World.setCell _ _ _ = W5 at hs5 ⊢
  have H5 := Lib.hid (show St I (hou p { h with ts := ts', ss := ss' } vM (.slice A ts'.length c) (.slice B ss'.length cb) (bk w.heap.size 3 #[.int .i64 id] :: M)) W5 from hs5)
  clear hs5 hcP hfP hlP H4
  go_wp2
  go_returns
  refine Ret.mk (.refl I) H5.out.up4.drop ⟨rfl, ⟨by rw [HE.out]; rfl, _, _, _, by rw [HE.out]⟩⟩
set_option maxRecDepth 8000 in
set_option maxHeartbeats 4000000 in
theorem unsubC (I : Img) (M : List Res) (w : World) (p : Nat) (h : Ho) (vM vT vS : Value) (id track : Int) (hst : St I (hou p h vM vT vS M) w) (hls : h.ss.length ≤ 1000000) :
    Calls Try.prog 27 #[.pointer (some ⟨p, 0, none⟩), .int .i64 id, .int .i64 track] w (Ret I (fun v J M' => I = J ∧ HQ p M (unsubS h id track) v M')) := by
  have hs1 := ((hst.alloc 3 #[.int .i64 id]).dn4.alloc 3 #[.int .i64 track]).dn4
  rw [show (w.alloc (Obj.cells #[.int .i64 id] 3)).heap.size = w.heap.size + 1 from World.size_alloc _ _] at hs1
  obtain ⟨B, cb, rfl⟩ := own_form (show World.ownsRow _ 0 49 3 vS _ _ from hs1.at 2 rfl)
  obtain ⟨hcP, hfP, hlP⟩ := Blk.all (hs1.at 3 rfl)
  have hd := delSC I _ _ B cb 50 #[.pointer (some ⟨w.heap.size, 0, none⟩), .pointer (some ⟨w.heap.size + 1, 0, none⟩)] h.ss (fun s => s.member == id && s.track == track) eg50 (fun g cur W hW x _ => c50 W x _ _ id track (Blk.one (hW.at 5 rfl)).1 (Blk.one (hW.at 4 rfl)).1) hs1.swap2 hls
  clear hst hs1
  go_enter Try.func27, Try.ntmps27
  go_wp2_with fail
  refine hd.mono ?_
  rintro e w4 ⟨v, J, M', rfl, hle, hs2, rfl, rfl, rfl⟩
  have hE : unsubS h id track = if (h.ss.filter (fun s => !(s.member == id && s.track == track))).length = h.ss.length then (h, 7) else ({ h with ss := h.ss.filter (fun s => !(s.member == id && s.track == track)) }, 0) := rfl
  have hall : (h.ss.filter (fun s => !(s.member == id && s.track == track))).length = h.ss.length → h.ss.filter (fun s => !(s.member == id && s.track == track)) = h.ss := fun h1 => by
    rw [List.filter_eq_self]
    exact List.length_filter_eq_length_iff.1 h1
  have hle2 : (h.ss.filter (fun s => !(s.member == id && s.track == track))).length ≤ h.ss.length := List.length_filter_le _ _
  obtain ⟨ss', hss⟩ : ∃ l, l = h.ss.filter (fun s => !(s.member == id && s.track == track)) := ⟨_, rfl⟩
  rw [← hss] at hs2 hE hall hle2 ⊢
  have HE := Lib.hid hE
  have HA := Lib.hid hall
  have H4 := Lib.hid hs2.swap2
  clear hs2 hd hcP hfP hlP hss hle hE hall
  obtain ⟨hcP, hfP, hlP⟩ := Blk.all (H4.out.at 3 rfl)
  go_upto_region 5 with fail
  have hs5 := H4.out.set3 2 (.slice B ss'.length cb)
  generalize World.setCell _ _ _ = W5 at hs5 ⊢
  have H5 := Lib.hid (show St I (hou p { h with ss := ss' } vM vT (.slice B ss'.length cb) (bk (w.heap.size + 1) 3 #[.int .i64 track] :: bk w.heap.size 3 #[.int .i64 id] :: M)) W5 from hs5)
  clear hs5 hcP hfP hlP H4
  obtain ⟨hcP, hfP, hlP⟩ := Blk.all (H5.out.at 3 rfl)
  by_cases hn : ss'.length = h.ss.length
  · have hb : ((ss'.length : Int) == (h.ss.length : Int)) = true := by simp; omega
    have HE2 := Lib.hid (HE.out.trans (if_pos hn))
    have HS := Lib.hid (show ss' = h.ss from HA.out hn)
    clear hn
    go_wp2
    go_returns
    refine Ret.mk (.refl I) H5.out.up4.drop.up4.drop ⟨rfl, ⟨by rw [HE2.out]; rfl, _, _, _, by rw [HE2.out, HS.out]⟩⟩
  · have hb : ((ss'.length : Int) == (h.ss.length : Int)) = false := by simp; omega
    have HE2 := Lib.hid (HE.out.trans (if_neg hn))
    clear hn
    go_wp2
    go_returns
    refine Ret.mk (.refl I) H5.out.up4.drop.up4.drop ⟨rfl, ⟨by rw [HE2.out]; rfl, _, _, _, by rw [HE2.out]⟩⟩
end Go.Proofs.Ytbaobonlolbnpaa
