/- room.House: Members, Tracks, Subs. -/
import Derived.Test.YtbaobonlolbnpaaRoA
namespace Go.Proofs.Ytbaobonlolbnpaa
open Go.RowKit
set_option linter.unusedSimpArgs false

def ints (l : List Int) : List Value := l.map (Value.int .i64)
theorem ints_append (a b : List Int) : ints (a ++ b) = ints a ++ ints b := List.map_append ..
theorem info3 : (Try.prog.info? 3).map (fun i => (i.zero, i.size, i.bytes)) = some (some (.int .i64 0), 1, 8) := by kernel_rfl
def membersS (h : Ho) (name : ByteArray) : List Int := (h.ms.filter (fun m => m.room.toList == name.toList)).map (·.id)
set_option maxRecDepth 8000 in
set_option maxHeartbeats 4000000 in
theorem membersC (I : Img) (M : List Res) (w : World) (p : Nat) (h : Ho) (vM vT vS : Value) (name : ByteArray) (hst : St I (hou p h vM vT vS M) w) (hl : h.ms.length ≤ 1000000) :
    Calls Try.prog 12 #[.pointer (some ⟨p, 0, none⟩), .string name] w (Ret I (fun v J M' => I = J ∧ ∃ A c, v = .slice A (membersS h name).length c ∧ M' = row 3 1 (.slice A (membersS h name).length c) (membersS h name).length (ints (membersS h name)) :: hou p h vM vT vS M)) := by
  obtain ⟨hcP, _, hlP⟩ := Blk.all (hst.at 3 rfl)
  obtain ⟨A, c, rfl⟩ := own_form (show w.ownsRow 0 73 5 vM _ _ from hst.head)
  obtain ⟨i3, hi, hz0, hz1, hz2⟩ := info_parts info3
  have H0 := Lib.hid (hst.nil (e := 3) (size := 1))
  clear hst
  go_enter Try.func12, Try.ntmps12
  go_wp2
  clear hcP hlP
  go_loopw [5, 15] (fun lv iv wr => ∃ (k : Nat) (B : Option Addr) (cb : Nat) (l : List Int), k ≤ h.ms.length ∧ iv = .int .i64 k ∧ lv = .slice B l.length cb ∧ l.length ≤ k ∧ Hid (l = ((h.ms.take k).filter (fun m => m.room.toList == name.toList)).map (·.id) ∧ St I (row 3 1 (.slice B l.length cb) l.length (ints l) :: hou p h (.slice A h.ms.length c) vT vS M) wr)) (fun _ iv _ => h.ms.length - (intOf iv).toNat)
  case atStart => exact ⟨0, none, 0, [], by omega, rfl, rfl, Nat.le_refl _, rfl, H0.out⟩
  case round =>
    obtain ⟨k, B, cb, l, hk, rfl, rfl, hlk, hh⟩ := hrel
    obtain ⟨hl2, hs⟩ := hh.out
    clear hh H0
    by_cases hlt : k < h.ms.length
    · obtain ⟨g, rfl, _, hcc, hg, hcell, _⟩ := flat_cell (f := memC) (s := 5) (fun _ => rfl) hs.swap1 (by omega) (by decide)
      obtain ⟨x, hx⟩ : ∃ x, x = h.ms[k] := ⟨_, rfl⟩
      have z0 : wr.cell? ⟨g, k * 5, none⟩ = some (.int .i64 h.ms[k].id) := hcell k hlt 0 (by decide)
      have z1 : wr.cell? ⟨g, k * 5 + 1, none⟩ = some (.string h.ms[k].room) := hcell k hlt 1 (by decide)
      have z2 : wr.cell? ⟨g, k * 5 + 2, none⟩ = some (.string h.ms[k].user) := hcell k hlt 2 (by decide)
      have z3 : wr.cell? ⟨g, k * 5 + 3, none⟩ = some (.int .i64 h.ms[k].til) := hcell k hlt 3 (by decide)
      have z4 : wr.cell? ⟨g, k * 5 + 4, none⟩ = some (.int .i64 h.ms[k].rights) := hcell k hlt 4 (by decide)
      have hnext : ((h.ms.take (k + 1)).filter (fun m => m.room.toList == name.toList)).map (·.id) = l ++ (if (x.room.toList == name.toList) = true then [x.id] else []) := by
        rw [List.take_succ_eq_append_getElem hlt, List.filter_append, List.map_append, ← hl2, hx]
        congr 1
        simp only [List.filter_cons, List.filter_nil]
        split <;> rfl
      rw [← hx] at z0 z1 z2 z3 z4
      have HN := Lib.hid hnext
      have HS := Lib.hid (hs.alloc 73 (memC x).toArray).drop
      clear hcell hl2 hx hnext hs
      cases hb : (x.room.toList == name.toList)
      · rw [hb] at HN
        have HN2 : Hid (((h.ms.take (k + 1)).filter (fun m => m.room.toList == name.toList)).map (·.id) = l) := Lib.hid (by rw [HN.out]; simp)
        clear HN
        go_wp2
        go_roundw
        case rel => exact ⟨k + 1, B, cb, l, by omega, by go_num, rfl, by omega, HN2.out.symm, HS.out⟩
        case measure => simp [intOf]; omega
      · rw [hb] at HN
        have HN2 : Hid (((h.ms.take (k + 1)).filter (fun m => m.room.toList == name.toList)).map (·.id) = l ++ [x.id]) := Lib.hid (by rw [HN.out]; simp)
        have hs0 := HS.out.litSrcV (P := Try.prog) (t := 34) (e := 3) (cs := #[.int .i64 x.id]) (n := 1) (size := 1) rfl (by decide) Try.underlying34 (by simp [Value.oneCell'])
        simp only [World.size_alloc] at hs0
        have Hs := Lib.hid hs0
        have HG := Lib.hid (HS.out.grow (.cells #[.int .i64 x.id] 3))
        clear HN HS hs0
        go_wp2_with (at_builtin; refine wpList_append_src _ rfl _ _ 34 34 rfl 0 3 i3 (.int .i64 0) 1 8 Try.underlying34 hi hz0 hz1 hz2 rfl _ l.length (ints l) rfl HG.out.head _ 1 _ rfl Hs.out (by unfold maxLen; omega) (by omega) (Nat.zero_le _) ?_)
        intro v' w' hown hgrow hat
        have hown2 : w'.ownsRow 0 3 1 v' (l ++ [x.id]).length (ints (l ++ [x.id])) := by simpa [ints_append, ints] using hown
        have hs3 := HG.out.grown hgrow hown2 (by simpa using hat)
        obtain ⟨B', c', rfl⟩ := own_form hown2
        obtain ⟨n2, hn2⟩ : ∃ n2, n2 = (l ++ [x.id]).length := ⟨_, rfl⟩
        rw [← hn2] at hs3 ⊢
        have HS3 := Lib.hid (And.intro hn2 hs3)
        clear hown hown2 hgrow hat hs3 hn2 HG Hs z0 z1 z2 z3 z4
        go_wp2
        go_roundw
        case rel => exact ⟨k + 1, B', c', l ++ [x.id], by omega, by go_num, by rw [← HS3.out.1], by simp; omega, HN2.out.symm, by rw [← HS3.out.1]; exact HS3.out.2⟩
        case measure => simp [intOf]; omega
    · have hk' : k = h.ms.length := by omega
      have HL := Lib.hid (show l = membersS h name by rw [hl2, hk', List.take_length]; rfl)
      have hk2 : (h.ms.length : Int) ≤ k := by omega
      have HS := Lib.hid hs
      clear hlt hl2 hs
      go_wp2
      go_returns
      rw [← HL.out]
      exact Ret.mk (.refl I) HS.out ⟨rfl, B, cb, rfl, rfl⟩
theorem info49 : (Try.prog.info? 49).map (fun i => (i.zero, i.size, i.bytes)) = some (some (.agg #[.int .i64 0, .int .i64 0, .int .i64 0]), 3, 24) := by kernel_rfl
theorem info47 : (Try.prog.info? 47).map (fun i => (i.zero, i.size, i.bytes)) = some (some (.agg #[.int .i64 0, .int .i64 0, .string ⟨#[]⟩, .int .i64 0]), 4, 40) := by kernel_rfl
def subsS (h : Ho) (id : Int) : List Sb := h.ss.filter (fun s => s.track == id)
set_option maxRecDepth 8000 in
set_option maxHeartbeats 4000000 in
theorem subsC (I : Img) (M : List Res) (w : World) (p : Nat) (h : Ho) (vM vT vS : Value) (id : Int) (hst : St I (hou p h vM vT vS M) w) (hl : h.ss.length ≤ 1000000) :
    Calls Try.prog 16 #[.pointer (some ⟨p, 0, none⟩), .int .i64 id] w (Ret I (fun v J M' => I = J ∧ ∃ A c, v = .slice A (subsS h id).length c ∧ M' = row 49 3 (.slice A (subsS h id).length c) (subsS h id).length (flat sbC (subsS h id)) :: hou p h vM vT vS M)) := by
  obtain ⟨hcP, _, hlP⟩ := Blk.all (hst.at 3 rfl)
  obtain ⟨A, c, rfl⟩ := own_form (show w.ownsRow 0 49 3 vS _ _ from hst.swap2.head)
  obtain ⟨i3, hi, hz0, hz1, hz2⟩ := info_parts info49
  have H0 := Lib.hid (hst.nil (e := 49) (size := 3))
  clear hst
  go_enter Try.func16, Try.ntmps16
  go_wp2
  clear hcP hlP
  go_loopw [5, 15] (fun lv iv wr => ∃ (k : Nat) (B : Option Addr) (cb : Nat) (l : List Sb), k ≤ h.ss.length ∧ iv = .int .i64 k ∧ lv = .slice B l.length cb ∧ l.length ≤ k ∧ Hid (l = (h.ss.take k).filter (fun s => s.track == id) ∧ St I (row 49 3 (.slice B l.length cb) l.length (flat sbC l) :: hou p h vM vT (.slice A h.ss.length c) M) wr)) (fun _ iv _ => h.ss.length - (intOf iv).toNat)
  case atStart => exact ⟨0, none, 0, [], by omega, rfl, rfl, Nat.le_refl _, rfl, H0.out⟩
  case round =>
    obtain ⟨k, B, cb, l, hk, rfl, rfl, hlk, hh⟩ := hrel
    obtain ⟨hl2, hs⟩ := hh.out
    clear hh H0
    by_cases hlt : k < h.ss.length
    · obtain ⟨g, rfl, _, hcc, hg, hcell, _⟩ := flat_cell (f := sbC) (s := 3) (fun _ => rfl) hs.swap3 (by omega) (by decide)
      obtain ⟨x, hx⟩ : ∃ x, x = h.ss[k] := ⟨_, rfl⟩
      have z0 : wr.cell? ⟨g, k * 3, none⟩ = some (.int .i64 h.ss[k].member) := hcell k hlt 0 (by decide)
      have z1 : wr.cell? ⟨g, k * 3 + 1, none⟩ = some (.int .i64 h.ss[k].track) := hcell k hlt 1 (by decide)
      have z2 : wr.cell? ⟨g, k * 3 + 2, none⟩ = some (.int .i64 h.ss[k].layer) := hcell k hlt 2 (by decide)
      have hnext : (h.ss.take (k + 1)).filter (fun s => s.track == id) = l ++ (if (x.track == id) = true then [x] else []) := by
        rw [List.take_succ_eq_append_getElem hlt, List.filter_append, ← hl2, hx]
        congr 1
        simp only [List.filter_cons, List.filter_nil]
      rw [← hx] at z0 z1 z2
      have HN := Lib.hid hnext
      have HS := Lib.hid (hs.alloc 49 (sbC x).toArray).drop
      clear hcell hl2 hx hnext hs
      cases hb : (x.track == id)
      · rw [hb] at HN
        have HN2 : Hid ((h.ss.take (k + 1)).filter (fun s => s.track == id) = l) := Lib.hid (by rw [HN.out]; simp)
        clear HN
        go_wp2
        go_roundw
        case rel => exact ⟨k + 1, B, cb, l, by omega, by go_num, rfl, by omega, HN2.out.symm, HS.out⟩
        case measure => simp [intOf]; omega
      · rw [hb] at HN
        have HN2 : Hid ((h.ss.take (k + 1)).filter (fun s => s.track == id) = l ++ [x]) := Lib.hid (by rw [HN.out]; simp)
        have hs0 := HS.out.litSrcV (P := Try.prog) (t := 44) (e := 49) (cs := (sbC x).toArray) (n := 1) (size := 3) rfl (by decide) Try.underlying44 (by simp [Value.oneCell'])
        simp only [World.size_alloc] at hs0
        have Hs := Lib.hid hs0
        have HG := Lib.hid (HS.out.grow (.cells (sbC x).toArray 49))
        clear HN HS hs0
        go_wp2_with (at_builtin; refine wpList_append_src _ rfl _ _ 44 44 rfl 0 49 i3 (.agg #[.int .i64 0, .int .i64 0, .int .i64 0]) 3 24 Try.underlying44 hi hz0 hz1 hz2 rfl _ l.length (flat sbC l) rfl HG.out.head _ 1 _ rfl Hs.out (by unfold maxLen; omega) (by omega) (Nat.zero_le _) ?_)
        intro v' w' hown hgrow hat
        have hown2 : w'.ownsRow 0 49 3 v' (l ++ [x]).length (flat sbC (l ++ [x])) := by simpa [flat_append, flat] using hown
        have hs3 := HG.out.grown hgrow hown2 (by simpa using hat)
        obtain ⟨B', c', rfl⟩ := own_form hown2
        obtain ⟨n2, hn2⟩ : ∃ n2, n2 = (l ++ [x]).length := ⟨_, rfl⟩
        rw [← hn2] at hs3 ⊢
        have HS3 := Lib.hid (And.intro hn2 hs3)
        clear hown hown2 hgrow hat hs3 hn2 HG Hs z0 z1 z2
        go_wp2
        go_roundw
        case rel => exact ⟨k + 1, B', c', l ++ [x], by omega, by go_num, by rw [← HS3.out.1], by simp; omega, HN2.out.symm, by rw [← HS3.out.1]; exact HS3.out.2⟩
        case measure => simp [intOf]; omega
    · have hk' : k = h.ss.length := by omega
      have HL := Lib.hid (show l = subsS h id by rw [hl2, hk', List.take_length]; rfl)
      have hk2 : (h.ss.length : Int) ≤ k := by omega
      have HS := Lib.hid hs
      clear hlt hl2 hs
      go_wp2
      go_returns
      rw [← HL.out]
      exact Ret.mk (.refl I) HS.out ⟨rfl, B, cb, rfl, rfl⟩
/-- is a track of a member of this room? -/
def inRoom (h : Ho) (name : ByteArray) (t : Trk) : Bool := match mem? h t.member with | some m => m.room.toList == name.toList | none => false
def tracksS (h : Ho) (name : ByteArray) : List Trk := h.ts.filter (inRoom h name)
set_option maxRecDepth 8000 in
set_option maxHeartbeats 4000000 in
theorem tracksC (I : Img) (M : List Res) (w : World) (p : Nat) (h : Ho) (vM vT vS : Value) (name : ByteArray) (hst : St I (hou p h vM vT vS M) w) (hl : h.ts.length ≤ 1000000) (hlm : h.ms.length ≤ 140737488351232) (hmem : ∀ t ∈ h.ts, mem? h t.member ≠ none) :
    Calls Try.prog 13 #[.pointer (some ⟨p, 0, none⟩), .string name] w (Ret I (fun v J M' => I = J ∧ ∃ A c, v = .slice A (tracksS h name).length c ∧ M' = row 47 4 (.slice A (tracksS h name).length c) (tracksS h name).length (flat trkC (tracksS h name)) :: hou p h vM vT vS M)) := by
  obtain ⟨hcP, _, hlP⟩ := Blk.all (hst.at 3 rfl)
  obtain ⟨A, c, rfl⟩ := own_form (show w.ownsRow 0 47 4 vT _ _ from hst.swap1.head)
  obtain ⟨i3, hi, hz0, hz1, hz2⟩ := info_parts info47
  have H0 := Lib.hid (hst.nil (e := 47) (size := 4))
  clear hst
  go_enter Try.func13, Try.ntmps13
  go_wp2
  clear hcP hlP
  go_loopw [5, 15] (fun lv iv wr => ∃ (k : Nat) (B : Option Addr) (cb : Nat) (l : List Trk), k ≤ h.ts.length ∧ iv = .int .i64 k ∧ lv = .slice B l.length cb ∧ l.length ≤ k ∧ Hid (l = (h.ts.take k).filter (inRoom h name) ∧ St I (row 47 4 (.slice B l.length cb) l.length (flat trkC l) :: hou p h vM (.slice A h.ts.length c) vS M) wr)) (fun _ iv _ => h.ts.length - (intOf iv).toNat)
  case atStart => exact ⟨0, none, 0, [], by omega, rfl, rfl, Nat.le_refl _, rfl, H0.out⟩
  case round =>
    obtain ⟨k, B, cb, l, hk, rfl, rfl, hlk, hh⟩ := hrel
    obtain ⟨hl2, hs⟩ := hh.out
    clear hh H0
    by_cases hlt : k < h.ts.length
    · obtain ⟨g, rfl, _, hcc, hg, hcell, _⟩ := flat_cell (f := trkC) (s := 4) (fun _ => rfl) hs.swap2 (by omega) (by decide)
      obtain ⟨x, hx⟩ : ∃ x, x = h.ts[k] := ⟨_, rfl⟩
      have z0 : wr.cell? ⟨g, k * 4, none⟩ = some (.int .i64 h.ts[k].id) := hcell k hlt 0 (by decide)
      have z1 : wr.cell? ⟨g, k * 4 + 1, none⟩ = some (.int .i64 h.ts[k].member) := hcell k hlt 1 (by decide)
      have z2 : wr.cell? ⟨g, k * 4 + 2, none⟩ = some (.string h.ts[k].mid) := hcell k hlt 2 (by decide)
      have z3 : wr.cell? ⟨g, k * 4 + 3, none⟩ = some (.int .i64 h.ts[k].kind) := hcell k hlt 3 (by decide)
      have hmx := hmem h.ts[k] (List.getElem_mem hlt)
      rw [← hx] at hmx
      have hnext : (h.ts.take (k + 1)).filter (inRoom h name) = l ++ (if inRoom h name x = true then [x] else []) := by
        rw [List.take_succ_eq_append_getElem hlt, List.filter_append, ← hl2, hx]
        congr 1
        simp only [List.filter_cons, List.filter_nil]
      rw [← hx] at z0 z1 z2 z3
      have HN := Lib.hid hnext
      have HS := Lib.hid (hs.alloc 47 (trkC x).toArray).drop
      clear hcell hl2 hx hnext hs
      obtain ⟨m, hm⟩ : ∃ m, mem? h x.member = some m := by
        cases e : mem? h x.member with
        | none => exact absurd e hmx
        | some m => exact ⟨m, rfl⟩
      have HM := Lib.hid hm
      have hroom : inRoom h name x = (m.room.toList == name.toList) := by unfold inRoom; rw [hm]
      rw [hroom] at HN
      clear hm hmx hroom
      go_wp2_with fail
      refine (memberC I M _ p h vM _ vS x.member HS.out.drop hlm).mono ?_
      rintro e w' ⟨hw', r, rfl, hr⟩
      subst w'
      rcases hr.find HS.out.drop with ⟨hf, _⟩ | ⟨m', g2, o2, hf, rfl, hg2, hcell2⟩
      · rw [HM.out] at hf; cases hf
      rw [HM.out] at hf
      injection hf with hf
      subst hf
      have y1 := hcell2 1 (by decide)
      have y1 : (wr.alloc (.cells (trkC x).toArray 47)).cell? ⟨g2, o2 + 1, none⟩ = some (.string m.room) := y1
      clear hr hcell2
      cases hb : (m.room.toList == name.toList)
      · rw [hb] at HN
        have HN2 : Hid ((h.ts.take (k + 1)).filter (inRoom h name) = l) := Lib.hid (by rw [HN.out]; simp)
        clear HN
        go_wp2
        go_roundw
        case rel => exact ⟨k + 1, B, cb, l, by omega, by go_num, rfl, by omega, HN2.out.symm, HS.out⟩
        case measure => simp [intOf]; omega
      · rw [hb] at HN
        have HN2 : Hid ((h.ts.take (k + 1)).filter (inRoom h name) = l ++ [x]) := Lib.hid (by rw [HN.out]; simp)
        have hs0 := HS.out.litSrcV (P := Try.prog) (t := 36) (e := 47) (cs := (trkC x).toArray) (n := 1) (size := 4) rfl (by decide) Try.underlying36 (by simp [Value.oneCell'])
        simp only [World.size_alloc] at hs0
        have Hs := Lib.hid hs0
        have HG := Lib.hid (HS.out.grow (.cells (trkC x).toArray 47))
        clear HN HS hs0
        go_wp2_with (at_builtin; refine wpList_append_src _ rfl _ _ 36 36 rfl 0 47 i3 (.agg #[.int .i64 0, .int .i64 0, .string ⟨#[]⟩, .int .i64 0]) 4 40 Try.underlying36 hi hz0 hz1 hz2 rfl _ l.length (flat trkC l) rfl HG.out.head _ 1 _ rfl Hs.out (by unfold maxLen; omega) (by omega) (Nat.zero_le _) ?_)
        intro v' w' hown hgrow hat
        have hown2 : w'.ownsRow 0 47 4 v' (l ++ [x]).length (flat trkC (l ++ [x])) := by simpa [flat_append, flat] using hown
        have hs3 := HG.out.grown hgrow hown2 (by simpa using hat)
        obtain ⟨B', c', rfl⟩ := own_form hown2
        obtain ⟨n2, hn2⟩ : ∃ n2, n2 = (l ++ [x]).length := ⟨_, rfl⟩
        rw [← hn2] at hs3 ⊢
        have HS3 := Lib.hid (And.intro hn2 hs3)
        clear hown hown2 hgrow hat hs3 hn2 HG Hs z0 z1 z2 z3
        go_wp2
        go_roundw
        case rel => exact ⟨k + 1, B', c', l ++ [x], by omega, by go_num, by rw [← HS3.out.1], by simp; omega, HN2.out.symm, by rw [← HS3.out.1]; exact HS3.out.2⟩
        case measure => simp [intOf]; omega
    · have hk' : k = h.ts.length := by omega
      have HL := Lib.hid (show l = tracksS h name by rw [hl2, hk', List.take_length]; rfl)
      have hk2 : (h.ts.length : Int) ≤ k := by omega
      have HS := Lib.hid hs
      clear hlt hl2 hs
      go_wp2
      go_returns
      rw [← HL.out]
      exact Ret.mk (.refl I) HS.out ⟨rfl, B, cb, rfl, rfl⟩
end Go.Proofs.Ytbaobonlolbnpaa
