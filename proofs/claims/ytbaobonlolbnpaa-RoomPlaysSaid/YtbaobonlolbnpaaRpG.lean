/- rostrumref23.House.Leave. -/
import Derived.Test.YtbaobonlolbnpaaRpF
import Derived.Test.YtbaobonlolbnpaaRoJ
namespace Go.Proofs.Ytbaobonlolbnpaa
open Go.RowKit
set_option linter.unusedSimpArgs false

def goneS (h : Ho) (id : Int) : List Int := (h.ts.filter (fun t => t.member == id)).map (·.id)
def goS (h : Ho) (l : List Int) : Ho := { h with ts := h.ts.filter (fun t => !(l.any (fun g => g == t.id))), ss := h.ss.filter (fun s => !(l.any (fun g => g == s.track))) }
theorem goS_nil (h : Ho) : goS h [] = h := by
  have h1 : h.ts.filter (fun _ => true) = h.ts := List.filter_eq_self.2 (fun _ _ => rfl)
  have h2 : h.ss.filter (fun _ => true) = h.ss := List.filter_eq_self.2 (fun _ _ => rfl)
  unfold goS
  simp only [List.any_nil, Bool.not_false, h1, h2]
theorem nodup_filter_one {α : Type} {key : α → Int} {l : List α} (h : (l.map key).Nodup) (id : Int) : (l.filter (fun x => key x == id)).length ≤ 1 := by
  induction l with
  | nil => simp
  | cons x r ih =>
    simp only [List.map_cons, List.nodup_cons] at h
    rw [List.filter_cons]
    split
    · rename_i hx
      have : r.filter (fun x => key x == id) = [] := List.filter_eq_nil_iff.2 (fun y hy => by
        intro he
        simp only [beq_iff_eq] at hx he
        exact h.1 (List.mem_map.2 ⟨y, hy, by rw [he, hx]⟩))
      rw [this]; simp
    · exact ih h.2
theorem goS_step {h : Ho} {gone : List Int} (hg : gone.Nodup) (hin : ∀ g ∈ gone, ∃ t ∈ h.ts, t.id = g) {j : Nat} (hj : j < gone.length) : unpubS (goS h (gone.take j)) gone[j] = (goS h (gone.take (j + 1)), 0) := by
  have hno : ∀ x ∈ gone.take j, x ≠ gone[j] := by
    intro x hx e
    obtain ⟨i, hi, hix⟩ := List.getElem_of_mem hx
    rw [List.length_take] at hi
    rw [List.getElem_take] at hix
    have := (List.getElem_inj hg).1 (hix.trans e)
    omega
  obtain ⟨t, ht, hte⟩ := hin _ (List.getElem_mem hj)
  have hmem : t ∈ (goS h (gone.take j)).ts := by
    unfold goS
    refine List.mem_filter.2 ⟨ht, ?_⟩
    have : (gone.take j).any (fun g => g == t.id) = false := List.any_eq_false.2 (fun x hx => by simpa using fun e => hno x hx (by rw [e, hte]))
    rw [this]; rfl
  have hsome : trk? (goS h (gone.take j)) gone[j] ≠ none := by
    unfold trk?
    intro hn
    have := List.find?_eq_none.1 hn t hmem
    exact this (by simpa using hte)
  unfold unpubS
  rw [if_neg hsome]
  have hany : ∀ x : Int, (gone.take (j + 1)).any (fun g => g == x) = ((gone.take j).any (fun g => g == x) || gone[j] == x) := fun x => by
    rw [List.take_succ_eq_append_getElem hj, List.any_append]; simp
  unfold goS
  simp only [List.filter_filter, hany]
  congr 2
  · refine List.filter_congr (fun t _ => ?_)
    rw [Bool.not_or, Bool.and_comm, Bool.beq_comm (a := gone[j])]
  · refine List.filter_congr (fun s _ => ?_)
    rw [Bool.not_or, Bool.and_comm, Bool.beq_comm (a := gone[j])]
theorem gone_nodup {h : Ho} (id : Int) (hnd : (h.ts.map (·.id)).Nodup) : (goneS h id).Nodup := List.Nodup.sublist ((List.filter_sublist).map _) hnd
theorem gone_in {h : Ho} {id : Int} : ∀ g ∈ goneS h id, ∃ t ∈ h.ts, t.id = g := fun g hg => by
  obtain ⟨t, ht, e⟩ := List.mem_map.1 hg
  exact ⟨t, (List.mem_filter.1 ht).1, e⟩
theorem gone_any {h : Ho} {id : Int} (hnd : (h.ts.map (·.id)).Nodup) {t : Trk} (ht : t ∈ h.ts) : (goneS h id).any (fun g => g == t.id) = (t.member == id) := by
  cases hb : (t.member == id)
  · refine List.any_eq_false.2 (fun g hg he => ?_)
    simp only [beq_iff_eq] at he
    obtain ⟨t2, ht2, e⟩ := List.mem_map.1 hg
    obtain ⟨ht3, ht4⟩ := List.mem_filter.1 ht2
    obtain ⟨a, ha, rfl⟩ := List.getElem_of_mem ht
    obtain ⟨b, hb2, rfl⟩ := List.getElem_of_mem ht3
    have hij : (h.ts.map (·.id))[b]'(by simpa using hb2) = (h.ts.map (·.id))[a]'(by simpa using ha) := by
      rw [List.getElem_map, List.getElem_map]; exact e.trans he
    have := (List.getElem_inj hnd).1 hij
    subst this
    rw [hb] at ht4
    cases ht4
  · exact List.any_eq_true.2 ⟨t.id, List.mem_map.2 ⟨t, List.mem_filter.2 ⟨ht, hb⟩, rfl⟩, by simp⟩
theorem leave_law {h : Ho} {id : Int} (hnd : (h.ts.map (·.id)).Nodup) (htr : ∀ s ∈ h.ss, trk? h s.track ≠ none) (hm : mem? h id ≠ none) :
    leaveS h id = ({ h with ms := h.ms.filter (fun m => !(m.id == id)), ts := (goS h (goneS h id)).ts, ss := (goS h (goneS h id)).ss.filter (fun s => !(s.member == id)) }, 0) := by
  unfold leaveS
  rw [if_neg hm]
  unfold goS
  simp only [List.filter_filter]
  congr 2
  · refine List.filter_congr (fun t ht => ?_)
    rw [gone_any hnd ht]
  · refine List.filter_congr (fun s hs => ?_)
    rw [Bool.not_or]
    congr 1
    have h1 := htr s hs
    unfold ownerS
    cases e : trk? h s.track with
    | none => exact absurd e h1
    | some t =>
      have h2 := List.mem_of_find?_eq_some e
      have h3 : t.id = s.track := by have := List.find?_some e; simpa using this
      dsimp only
      rw [← h3, gone_any hnd h2]
set_option maxRecDepth 8000 in
set_option maxHeartbeats 8000000 in
theorem leaveR (I : Img) (M : List Res) (w : World) (p : Nat) (h : Ho) (vM vT vS : Value) (id : Int) (hst : St I (houR p h vM vT vS M) w) (hlm : h.ms.length ≤ 1000000) (hlt : h.ts.length ≤ 1000000) (hls : h.ss.length ≤ 1000000) (hnd : (h.ts.map (·.id)).Nodup) (hnm : (h.ms.filter (fun m => m.id == id)).length ≤ 1) (htr : ∀ s ∈ h.ss, trk? h s.track ≠ none) :
    Calls Try.prog 29 #[.pointer (some ⟨p, 0, none⟩), .int .i64 id] w (Ret I (fun v J M' => I = J ∧ HR p M (leaveS h id) v M')) := by
  obtain ⟨A, c, rfl⟩ := own_form (show World.ownsRow _ 0 87 4 vT _ _ from hst.at 1 rfl)
  obtain ⟨C, cc, rfl⟩ := own_form (show World.ownsRow _ 0 90 5 vM _ _ from hst.at 0 rfl)
  obtain ⟨hcP, hfP, hlP⟩ := Blk.all (hst.at 3 rfl)
  have hm := memR I M w p h _ _ _ id hst hlm
  have HS := Lib.hid hst
  clear hst
  go_enter Try.func29, Try.ntmps29
  rcases idx_ways (fun x : Mem => x.id == id) h.ms with ⟨e, hno⟩ | ⟨i, hii, e, hpi, hno⟩
  · rw [e] at hm
    have HE := Lib.hid (show leaveS h id = (h, 7) by unfold leaveS mem?; rw [if_pos (List.find?_eq_none.2 (fun x hx => by rw [hno x hx]; simp))])
    clear e hno
    go_wp2_with (go_at_call 45; refine hm.mono ?_; clear hm; rintro e w2 ⟨rfl, hw2⟩; subst w2)
    go_returns
    refine Ret.mk (.refl I) HS.out ⟨rfl, ⟨by rw [HE.out]; rfl, _, _, _, by rw [HE.out]⟩⟩
  rw [e] at hm
  have hcut := cut_out (p := fun x : Mem => x.id == id) h.ms i hii hpi hno hnm
  have hE := leave_law hnd htr (id := id) (by unfold mem?; intro hf; have := List.find?_eq_none.1 hf _ (List.getElem_mem hii); exact this hpi)
  rw [← hcut] at hE
  have HE := Lib.hid hE
  have HND := Lib.hid hnd
  clear e hpi hno hcut hE hnd htr
  go_upto_region 6 with (go_at_call 45; refine hm.mono ?_; clear hm; rintro e w2 ⟨rfl, hw2⟩; subst w2)
  have H0 := Lib.hid (HS.out.nil (e := 3) (size := 1))
  clear HS hcP hfP hlP
  go_loopw [6, 21] (fun lv iv wr => ∃ (k : Nat) (B2 : Option Addr) (cb2 : Nat) (l : List Int), k ≤ h.ts.length ∧ iv = .int .i64 k ∧ lv = .slice B2 l.length cb2 ∧ l.length ≤ k ∧ Hid (l = ((h.ts.take k).filter (fun t => t.member == id)).map (·.id) ∧ St I (row 3 1 (.slice B2 l.length cb2) l.length (ints l) :: houR p h (.slice C h.ms.length cc) (.slice A h.ts.length c) vS M) wr)) (fun _ iv _ => h.ts.length - (intOf iv).toNat)
  case atStart => exact ⟨0, none, 0, [], by omega, rfl, rfl, Nat.le_refl _, rfl, H0.out⟩
  case round =>
    obtain ⟨k, B2, cb2, l, hk, rfl, rfl, hlk, hh⟩ := hrel
    obtain ⟨hl2, hs⟩ := hh.out
    clear hh H0
    obtain ⟨hcP, hfP, hlP⟩ := Blk.all (hs.at 4 rfl)
    by_cases hkl : k < h.ts.length
    · obtain ⟨g, rfl, _, hcc, hg, hcell, _⟩ := flat_cell (f := trkC) (s := 4) (fun _ => rfl) hs.swap2 (by omega) (by decide)
      obtain ⟨x, hx⟩ : ∃ x, x = h.ts[k] := ⟨_, rfl⟩
      have z0 : wr.cell? ⟨g, k * 4, none⟩ = some (.int .i64 h.ts[k].id) := hcell k hkl 0 (by decide)
      have z1 : wr.cell? ⟨g, k * 4 + 1, none⟩ = some (.int .i64 h.ts[k].member) := hcell k hkl 1 (by decide)
      have hnext : ((h.ts.take (k + 1)).filter (fun t => t.member == id)).map (·.id) = l ++ (if (x.member == id) = true then [x.id] else []) := by
        rw [List.take_succ_eq_append_getElem hkl, List.filter_append, List.map_append, ← hl2, hx]
        congr 1
        simp only [List.filter_cons, List.filter_nil]
        split <;> rfl
      rw [← hx] at z0 z1
      have HN := Lib.hid hnext
      have HS := Lib.hid hs
      clear hcell hl2 hx hnext hs
      cases hb : (x.member == id)
      · rw [hb] at HN
        have HN2 : Hid (((h.ts.take (k + 1)).filter (fun t => t.member == id)).map (·.id) = l) := Lib.hid (by rw [HN.out]; simp)
        clear HN
        go_wp2
        go_roundw
        case rel => exact ⟨k + 1, B2, cb2, l, by omega, by go_num, rfl, by omega, HN2.out.symm, HS.out⟩
        case measure => simp [intOf]; omega
      · rw [hb] at HN
        have HN2 : Hid (((h.ts.take (k + 1)).filter (fun t => t.member == id)).map (·.id) = l ++ [x.id]) := Lib.hid (by rw [HN.out]; simp)
        obtain ⟨i3, hi, hz0, hz1, hz2⟩ := info_parts info3
        have hs0 := HS.out.litSrcV (P := Try.prog) (t := 34) (e := 3) (cs := #[.int .i64 x.id]) (n := 1) (size := 1) rfl (by decide) Try.underlying34 (by simp [Value.oneCell'])
        have Hs := Lib.hid hs0
        have HG := Lib.hid (HS.out.grow (.cells #[.int .i64 x.id] 3))
        clear HN HS hs0
        go_wp2_with (at_builtin; refine wpList_append_src _ rfl _ _ 34 34 rfl 0 3 i3 (.int .i64 0) 1 8 Try.underlying34 hi hz0 hz1 hz2 rfl _ l.length (ints l) rfl HG.out.head _ 1 _ rfl Hs.out (by unfold maxLen; omega) (by omega) (Nat.zero_le _) ?_)
        intro v' w' hown hgrow hat
        have hown2 : w'.ownsRow 0 3 1 v' (l ++ [x.id]).length (ints (l ++ [x.id])) := by simpa [ints_append, ints] using hown
        have hs3 := HG.out.grown hgrow hown2 (by simpa using hat)
        obtain ⟨B', c', rfl⟩ := own_form hown2
        obtain ⟨n2, hn2⟩ : ∃ n2, n2 = (l ++ [x.id]).length := ⟨_, rfl⟩
        rw [← hn2] at hs3 ⊢
        have HS3 := Lib.hid (And.intro hn2 hs3)
        clear hown hown2 hgrow hat hs3 hn2 HG Hs z0 z1 hcP hfP hlP
        go_wp2
        go_roundw
        case rel => exact ⟨k + 1, B', c', l ++ [x.id], by omega, by go_num, by rw [← HS3.out.1], by simp; omega, HN2.out.symm, by rw [← HS3.out.1]; exact HS3.out.2⟩
        case measure => simp [intOf]; omega
    · have hk' : k = h.ts.length := by omega
      have hL : l = goneS h id := by rw [hl2, hk', List.take_length]; rfl
      have hk2 : (h.ts.length : Int) ≤ k := by omega
      have hll : l.length ≤ 1000000 := by omega
      have HL := Lib.hid hL
      have HS := Lib.hid hs.dn4
      clear hkl hl2 hk' hL hs
      go_upto_region 12 with fail
      simp only [decide_eq_false (show ¬ k < h.ts.length by omega)]
      clear hcP hfP hlP hk2
      go_loopw [48] (fun iv wx => ∃ (j : Nat), j ≤ l.length ∧ iv = .int .i64 j ∧ Hid (∃ vM' vT' vS', St I (houR p (goS h (l.take j)) vM' vT' vS' (row 3 1 (.slice B2 l.length cb2) l.length (ints l) :: M)) wx)) (fun iv _ => l.length - (intOf iv).toNat)
      case atStart => exact ⟨0, by omega, rfl, _, _, _, by rw [List.take_zero, goS_nil]; exact HS.out⟩
      case round =>
        obtain ⟨j, hj, rfl, hh⟩ := hrel
        obtain ⟨vM', vT', vS', hs⟩ := hh.out
        clear hh HS
        by_cases hjl : j < l.length
        · obtain ⟨g5, rfl, _, hc5, hg5, hcell5, _⟩ := St.rowCells hs.up4 (by rw [show (ints l).length = l.length from List.length_map ..]; omega)
          have y0 := hcell5 j (by rw [show (ints l).length = l.length from List.length_map ..]; exact hjl)
          simp only [ints, List.getElem_map] at y0
          have hsteps := goS_step (h := h) (gone := l) (by rw [HL.out]; exact gone_nodup id HND.out) (by rw [HL.out]; exact gone_in) hjl
          have hun := nodup_filter_one (key := Trk.id) (l := (goS h (l.take j)).ts) (List.Nodup.sublist ((List.filter_sublist).map _) HND.out) l[j]
          have hc := unpublishR I _ _ p (goS h (l.take j)) vM' vT' vS' l[j] hs (Nat.le_trans (List.length_filter_le _ _) hlt) (Nat.le_trans (List.length_filter_le _ _) hls) hun
          rw [hsteps] at hc
          obtain ⟨gj, hgj⟩ : ∃ gj, gj = l[j] := ⟨_, rfl⟩
          rw [← hgj] at y0 hc
          clear hcell5 hsteps hun hgj hs
          go_wp2_with (go_at_call 31; refine hc.mono ?_; clear hc; rintro e w3 ⟨_, _, _, rfl, _, hs2, rfl, _, vM2, vT2, vS2, rfl⟩; have HS2 := Lib.hid hs2; clear hs2)
          go_roundw
          case rel => exact ⟨j + 1, by omega, by go_num, vM2, vT2, vS2, HS2.out⟩
          case measure => simp [intOf]; omega
        · have hj' : j = l.length := by omega
          have hj2 : (l.length : Int) ≤ j := by omega
          rw [hj', List.take_length, HL.out] at hs
          obtain ⟨h', hh'⟩ : ∃ h', h' = goS h (goneS h id) := ⟨_, rfl⟩
          have hms : h'.ms = h.ms := by rw [hh']; rfl
          have hlm' : h'.lm = h.lm := by rw [hh']; rfl
          have hli' : h'.li = h.li := by rw [hh']; rfl
          have hls' : h'.ss.length ≤ 1000000 := by rw [hh']; exact Nat.le_trans (List.length_filter_le _ _) hls
          rw [← hh'] at hs HE
          replace hs := hs.up4.drop
          rw [← hms] at hii
          have HE2 := Lib.hid (show leaveS h id = ({ h' with ms := h'.ms.take i ++ h'.ms.drop (i + 1), ss := h'.ss.filter (fun s => !(s.member == id)) }, 0) by rw [HE.out, hms, hlm', hli'])
          obtain ⟨A3, c3, rfl⟩ := own_form (show World.ownsRow _ 0 87 4 vT' _ _ from hs.at 1 rfl)
          obtain ⟨C3, cc3, rfl⟩ := own_form (show World.ownsRow _ 0 90 5 vM' _ _ from hs.at 0 rfl)
          obtain ⟨B, cb, rfl⟩ := own_form (show World.ownsRow _ 0 88 3 vS' _ _ from hs.at 2 rfl)
          have hlm2 : h'.ms.length ≤ 1000000 := by rw [hms]; exact hlm
          have HS := Lib.hid hs
          clear hjl hj' hs hh' hms hlm' hli' HE HND HL hls hlt hlm hnm
          obtain ⟨hcP, hfP, hlP⟩ := Blk.all (HS.out.at 3 rfl)
          go_upto_region 18 with fail
          simp only [decide_eq_false (show ¬ j < l.length by omega)]
          clear hj2
          have H0 := Lib.hid (HS.out.nil (e := 88) (size := 3))
          clear HS hcP hfP hlP
          go_loopw [9, 63] (fun lv iv wr => ∃ (k : Nat) (B2 : Option Addr) (cb2 : Nat) (l : List Sb), k ≤ h'.ss.length ∧ iv = .int .i64 k ∧ lv = .slice B2 l.length cb2 ∧ l.length ≤ k ∧ Hid (l = (h'.ss.take k).filter (fun s => !(s.member == id)) ∧ St I (row 88 3 (.slice B2 l.length cb2) l.length (flat sbC l) :: houR p h' (.slice C3 h'.ms.length cc3) (.slice A3 h'.ts.length c3) (.slice B h'.ss.length cb) M) wr)) (fun _ iv _ => h'.ss.length - (intOf iv).toNat)
          case atStart => exact ⟨0, none, 0, [], by omega, rfl, rfl, Nat.le_refl _, rfl, H0.out⟩
          case round =>
            obtain ⟨k, B2, cb2, l, hk, rfl, rfl, hlk, hh⟩ := hrel
            obtain ⟨hl2, hs⟩ := hh.out
            clear hh H0
            obtain ⟨hcP, hfP, hlP⟩ := Blk.all (hs.at 4 rfl)
            by_cases hlt : k < h'.ss.length
            · obtain ⟨g, rfl, _, hcc, hg, hcell, _⟩ := flat_cell (f := sbC) (s := 3) (l := h'.ss) (fun _ => rfl) hs.swap3 (by omega) (by decide)
              obtain ⟨x, hx⟩ : ∃ x, x = h'.ss[k] := ⟨_, rfl⟩
              have z0 : wr.cell? ⟨g, k * 3, none⟩ = some (.int .i64 h'.ss[k].member) := hcell k hlt 0 (by decide)
              have z1 : wr.cell? ⟨g, k * 3 + 1, none⟩ = some (.int .i64 h'.ss[k].track) := hcell k hlt 1 (by decide)
              have z2 : wr.cell? ⟨g, k * 3 + 2, none⟩ = some (.int .i64 h'.ss[k].layer) := hcell k hlt 2 (by decide)
              have hnext : (h'.ss.take (k + 1)).filter (fun s => !(s.member == id)) = l ++ (if (!(x.member == id)) = true then [x] else []) := by
                rw [List.take_succ_eq_append_getElem hlt, List.filter_append, ← hl2, hx]
                congr 1
                simp only [List.filter_cons, List.filter_nil]
              rw [← hx] at z0 z1 z2
              have HN := Lib.hid hnext
              have HS := Lib.hid hs
              clear hcell hl2 hx hnext hs
              cases hb : (x.member == id)
              rotate_left
              · rw [hb] at HN
                have HN2 : Hid ((h'.ss.take (k + 1)).filter (fun s => !(s.member == id)) = l) := Lib.hid (by rw [HN.out]; simp)
                clear HN
                go_wp2
                go_roundw
                case rel => exact ⟨k + 1, B2, cb2, l, by omega, by go_num, rfl, by omega, HN2.out.symm, HS.out⟩
                case measure => simp [intOf]; omega
              · rw [hb] at HN
                have HN2 : Hid ((h'.ss.take (k + 1)).filter (fun s => !(s.member == id)) = l ++ [x]) := Lib.hid (by rw [HN.out]; simp)
                obtain ⟨i3, hi, hz0, hz1, hz2⟩ := info_parts info88
                have hs0 := HS.out.litSrcV (P := Try.prog) (t := 56) (e := 88) (cs := #[.int .i64 x.member, .int .i64 x.track, .int .i64 x.layer]) (n := 1) (size := 3) rfl (by decide) Try.underlying56 (by simp [Value.oneCell'])
                have Hs := Lib.hid hs0
                have HG := Lib.hid (HS.out.grow (.cells #[.int .i64 x.member, .int .i64 x.track, .int .i64 x.layer] 88))
                clear HN HS hs0
                go_wp2_with (at_builtin; refine wpList_append_src _ rfl _ _ 56 56 rfl 0 88 i3 (.agg #[.int .i64 0, .int .i64 0, .int .i64 0]) 3 24 Try.underlying56 hi hz0 hz1 hz2 rfl _ l.length (flat sbC l) rfl HG.out.head _ 1 _ rfl Hs.out (by unfold maxLen; omega) (by omega) (Nat.zero_le _) ?_)
                intro v2 w' hown hgrow hat
                have hown2 : w'.ownsRow 0 88 3 v2 (l ++ [x]).length (flat sbC (l ++ [x])) := by simpa [flat_append, flat] using hown
                have hs3 := HG.out.grown hgrow hown2 (by simpa using hat)
                obtain ⟨B', c', rfl⟩ := own_form hown2
                obtain ⟨n2, hn2⟩ : ∃ n2, n2 = (l ++ [x]).length := ⟨_, rfl⟩
                rw [← hn2] at hs3 ⊢
                have HS3 := Lib.hid (And.intro hn2 hs3)
                clear hown hown2 hgrow hat hs3 hn2 HG Hs z0 z1 z2 hcP hfP hlP
                go_wp2
                go_roundw
                case rel => exact ⟨k + 1, B', c', l ++ [x], by omega, by go_num, by rw [← HS3.out.1], by simp; omega, HN2.out.symm, by rw [← HS3.out.1]; exact HS3.out.2⟩
                case measure => simp [intOf]; omega
            · have hk' : k = h'.ss.length := by omega
              have HL := Lib.hid (show l = h'.ss.filter (fun s => !(s.member == id)) by rw [hl2, hk', List.take_length])
              have hk2 : (h'.ss.length : Int) ≤ k := by omega
              clear hlt hl2 hk'
              obtain ⟨n9, hn9⟩ : ∃ n9, n9 = l.length := ⟨_, rfl⟩
              rw [← hn9] at hs ⊢
              have HN9 := Lib.hid hn9
              have hE3 := HE2.out
              rw [← HL.out] at hE3
              have hx9 : ∃ h2 : Ho, St I (houR p h2 (.slice C3 h2.ms.length cc3) (.slice A3 h2.ts.length c3) (.slice B2 n9 cb2) M) (wr.setCell ⟨p, 2, none⟩ (.slice B2 n9 cb2)) ∧ leaveS h id = ({ h2 with ms := h2.ms.take i ++ h2.ms.drop (i + 1) }, 0) ∧ i < h2.ms.length ∧ h2.ms.length ≤ 1000000 ∧ h2.ms.length = h'.ms.length ∧ h2.ts.length = h'.ts.length := ⟨{ h' with ss := l }, by (have h9 := (hs.set4 2 (.slice B2 n9 cb2)).swap3.drop; rw [hn9] at h9 ⊢; exact h9), hE3, hii, hlm2, rfl, rfl⟩
              clear hE3
              obtain ⟨h2, hs9, hE3, hii2, hlm3, hme, hte⟩ := hx9
              have HS := Lib.hid hs9
              have HE3 := Lib.hid hE3
              clear hs hn9 hs9 hE3 HE2 hii hlm2
              have HME := Lib.hid hme
              have HTE := Lib.hid hte
              clear hme hte
              go_upto_region 24 with fail
              have hs := HS.out.drew
              generalize World.setCell _ _ _ = W9 at hs ⊢
              clear hcP hfP hlP HS
              obtain ⟨g, rfl, _, hcc, hg, _, _⟩ := flat_cell (f := memC) (s := 5) (l := h2.ms) (fun _ => rfl) hs (by omega) (by decide)
              clear hg
              obtain ⟨i3, hi, hz0, hz1, hz2⟩ := info_parts info90
              obtain ⟨A2, hA2⟩ : ∃ A2 : Addr, A2 = if cc3 = i + 1 then ⟨g, 0, none⟩ else ⟨g, (i + 1) * 5, none⟩ := ⟨_, rfl⟩
              have HA2 := Lib.hid (show (if cc3 = i + 1 then some (⟨g, 0, none⟩ : Addr) else some ⟨g, (i + 1) * 5, none⟩) = some A2 by rw [hA2]; split <;> rfl)
              have HA3 := Lib.hid hA2
              have HW := Lib.hid (show IntKind.i64.wrap ((i : Int) + 1) = ((i + 1 : Nat) : Int) by rw [IntKind.wrap_i64]; omega)
              clear hA2
              refine wp_region_held_drew (S := (fun _ => True)) (by kernel_rfl) (by (try dsimp only); all_goals trivial) (fun hHeld => ?_)
              generalize World.drew _ = W at hs hHeld ⊢
              refine wpAnyH_take (i := 0) (oi := _) (v := ?_) rfl (by kernel_rfl) (by kernel_rfl) (by kernel_rfl) (fun _ _ _ h => h) (Or.inl ⟨by rfl, ?_⟩) (by assumption) ?_
              rotate_left
              · (intro w hSw; (try dsimp only at hSw); go_simp; try with_reducible rfl)
              try simp only [Act.put, List.getElem_toArray, List.getElem_cons_zero, List.getElem_cons_succ, List.setIfInBounds_toArray, List.set_cons_zero, List.set_cons_succ]
              refine wpAnyH_take (i := 2) (oi := _) (v := ?_) rfl (by kernel_rfl) (by kernel_rfl) (by kernel_rfl) (fun _ _ _ h => h) (Or.inl ⟨by rfl, ?_⟩) (by assumption) ?_
              rotate_left
              · (intro w hSw; (try dsimp only at hSw); go_simp; try with_reducible rfl)
              try simp only [Act.put, List.getElem_toArray, List.getElem_cons_zero, List.getElem_cons_succ, List.setIfInBounds_toArray, List.set_cons_zero, List.set_cons_succ]
              refine wpAnyH_take (i := 3) (oi := _) (v := ?_) rfl (by kernel_rfl) (by kernel_rfl) (by kernel_rfl) (fun _ _ _ h => h) (Or.inl ⟨by rfl, ?_⟩) (by assumption) ?_
              rotate_left
              · (intro w hSw; (try dsimp only at hSw); go_simp; try with_reducible rfl)
              try simp only [Act.put, List.getElem_toArray, List.getElem_cons_zero, List.getElem_cons_succ, List.setIfInBounds_toArray, List.set_cons_zero, List.set_cons_succ]
              refine wpAnyH_take (i := 4) (oi := _) (v := ?_) rfl (by kernel_rfl) (by kernel_rfl) (by kernel_rfl) (fun _ _ _ h => h) (Or.inl ⟨by rfl, ?_⟩) (by assumption) ?_
              rotate_left
              · (intro w hSw; (try dsimp only at hSw); go_simp; try with_reducible rfl)
              try simp only [Act.put, List.getElem_toArray, List.getElem_cons_zero, List.getElem_cons_succ, List.setIfInBounds_toArray, List.set_cons_zero, List.set_cons_succ]
              refine wpAnyH_take (i := 6) (oi := _) (v := ?_) rfl (by kernel_rfl) (by kernel_rfl) (by kernel_rfl) (fun _ _ _ h => h) (Or.inl ⟨by rfl, ?_⟩) (by assumption) ?_
              rotate_left
              · (intro w hSw; (try dsimp only at hSw); go_simp; try with_reducible rfl)
              try simp only [Act.put, List.getElem_toArray, List.getElem_cons_zero, List.getElem_cons_succ, List.setIfInBounds_toArray, List.set_cons_zero, List.set_cons_succ]
              refine wpAnyH_take (i := 9) (oi := _) (v := ?_) rfl (by kernel_rfl) (by kernel_rfl) (by kernel_rfl) (fun _ _ _ h => h) (Or.inl ⟨by rfl, ?_⟩) (by assumption) ?_
              rotate_left
              · (intro w hSw; (try dsimp only at hSw); go_simp; try with_reducible rfl)
              try simp only [Act.put, List.getElem_toArray, List.getElem_cons_zero, List.getElem_cons_succ, List.setIfInBounds_toArray, List.set_cons_zero, List.set_cons_succ]
              refine wpAnyH_take (i := 10) (oi := _) (v := ?_) rfl (by kernel_rfl) (by kernel_rfl) (by kernel_rfl) (fun _ _ _ h => h) (Or.inl ⟨by rfl, ?_⟩) (by assumption) ?_
              rotate_left
              · (intro w hSw; (try dsimp only at hSw); go_simp; try with_reducible rfl)
              try simp only [Act.put, List.getElem_toArray, List.getElem_cons_zero, List.getElem_cons_succ, List.setIfInBounds_toArray, List.set_cons_zero, List.set_cons_succ]
              refine wpAnyH_take (i := 11) (oi := _) (v := ?_) rfl (by kernel_rfl) (by kernel_rfl) (by kernel_rfl) (fun _ _ _ h => h) (Or.inl ⟨by rfl, ?_⟩) (by assumption) ?_
              rotate_left
              · (intro w hSw; (try dsimp only at hSw); go_simp; try with_reducible rfl)
              try simp only [Act.put, List.getElem_toArray, List.getElem_cons_zero, List.getElem_cons_succ, List.setIfInBounds_toArray, List.set_cons_zero, List.set_cons_succ]
              refine wpAnyH_take (i := 13) (oi := _) (v := ?_) rfl (by kernel_rfl) (by kernel_rfl) (by kernel_rfl) (fun _ _ _ h => h) (Or.inl ⟨by rfl, ?_⟩) (by assumption) ?_
              rotate_left
              · (intro w hSw; (try dsimp only at hSw); go_simp; try with_reducible rfl)
              try simp only [Act.put, List.getElem_toArray, List.getElem_cons_zero, List.getElem_cons_succ, List.setIfInBounds_toArray, List.set_cons_zero, List.set_cons_succ]
              refine wpAnyH_take (i := 14) (oi := _) (v := ?_) rfl (by kernel_rfl) (by kernel_rfl) (by kernel_rfl) (fun _ _ _ h => h) (Or.inl ⟨by rfl, ?_⟩) (by assumption) ?_
              rotate_left
              · (intro w hSw; (try dsimp only at hSw); go_simp; try with_reducible rfl)
              try simp only [Act.put, List.getElem_toArray, List.getElem_cons_zero, List.getElem_cons_succ, List.setIfInBounds_toArray, List.set_cons_zero, List.set_cons_succ]
              refine wpAnyH_ready (rs := [1, 5, 12]) (by kernel_rfl) (by simp) ?_
              refine (AllReadyH.cons (o := _) rfl (fun K hK => ?_) (AllReadyH.cons (o := _) rfl (fun K hK => ?_) (AllReadyH.cons (o := _) rfl (fun K hK => ?_) AllReadyH.nil)))
              · skip
                go_simp
                try clear hHeld
                refine hK.out _ _ (by (try dsimp only); all_goals trivial) (fun hHeld => ?_)
                clear hK K
                try simp only [Act.put, List.getElem_toArray, List.getElem_cons_zero, List.getElem_cons_succ, List.setIfInBounds_toArray, List.set_cons_zero, List.set_cons_succ]
                generalize hw : World.alloc W _ = W at hHeld ⊢
                replace hs := hs.lit0S (s := 5) hw
                clear hw
                refine wpAnyH_ready (rs := [5, 12]) (by kernel_rfl) (by simp) ?_
                refine (AllReadyH.cons (o := _) rfl (fun K hK => ?_) (AllReadyH.cons (o := _) rfl (fun K hK => ?_) AllReadyH.nil))
                · skip
                  have hcQ : W.cell? ⟨p, 0, none⟩ = some (.slice (some ⟨g, 0, none⟩) h2.ms.length cc3) := by first | exact Blk.cell (hs.at 3 rfl) 0 | exact Blk.cell (hs.at 4 rfl) 0
                  go_simp
                  try clear hHeld
                  refine hK.out _ _ (by (try dsimp only); all_goals trivial) (fun hHeld => ?_)
                  clear hK K
                  try simp only [Act.put, List.getElem_toArray, List.getElem_cons_zero, List.getElem_cons_succ, List.setIfInBounds_toArray, List.set_cons_zero, List.set_cons_succ]
                  clear hcQ
                  refine wpAnyH_take (i := 7) (oi := _) (v := ?_) rfl (by kernel_rfl) (by kernel_rfl) (by kernel_rfl) (fun _ _ _ h => h) (Or.inl ⟨by rfl, ?_⟩) (by assumption) ?_
                  rotate_left
                  · (intro w hSw; (try dsimp only at hSw); go_simp; rw [if_pos (by omega)])
                  try simp only [Act.put, List.getElem_toArray, List.getElem_cons_zero, List.getElem_cons_succ, List.setIfInBounds_toArray, List.set_cons_zero, List.set_cons_succ]
                  refine wpAnyH_ready (rs := [8, 12]) (by kernel_rfl) (by simp) ?_
                  refine (AllReadyH.cons (o := _) rfl (fun K hK => ?_) (AllReadyH.cons (o := _) rfl (fun K hK => ?_) AllReadyH.nil))
                  · skip
                    refine step_append_src _ (by rfl) _ _ 68 68 (by rfl) 0 90 i3 (.agg #[.int .i64 0, .string ⟨#[]⟩, .string ⟨#[]⟩, .int .i64 0, .int .i64 0]) 5 56 Try.underlying68 hi hz0 hz1 hz2 rfl _ 0 [] (by rfl) hs.head _ i _ (by rfl) (own_src (f := memC) (fun _ => rfl) mem_one (hs.at 1 rfl) Try.underlying68 0 i _ (by omega) (by omega)) (by unfold maxLen; omega) (by omega) (Nat.zero_le _) ?_
                    intro v' W hown' hgrow hat
                    have hown2 : W.ownsRow 0 90 5 v' i (flat memC (h2.ms.take i)) := by simpa using hown'
                    obtain ⟨A10, c10, rfl⟩ := own_form hown2
                    replace hs := hs.grown hgrow hown2 hat
                    clear hown' hown2 hgrow hat
                    try clear hHeld
                    refine hK.out _ _ (by (try dsimp only); all_goals trivial) (fun hHeld => ?_)
                    clear hK K
                    try simp only [Act.put, List.getElem_toArray, List.getElem_cons_zero, List.getElem_cons_succ, List.setIfInBounds_toArray, List.set_cons_zero, List.set_cons_succ]
                    refine wpAnyH_ready (rs := [12]) (by kernel_rfl) (by simp) ?_
                    refine (AllReadyH.cons (o := _) rfl (fun K hK => ?_) AllReadyH.nil)
                    have hcQ : W.cell? ⟨p, 0, none⟩ = some (.slice (some ⟨g, 0, none⟩) h2.ms.length cc3) := by first | exact Blk.cell (hs.at 3 rfl) 0 | exact Blk.cell (hs.at 4 rfl) 0
                    go_simp
                    try clear hHeld
                    refine hK.out _ _ (by (try dsimp only); all_goals trivial) (fun hHeld => ?_)
                    clear hK K
                    try simp only [Act.put, List.getElem_toArray, List.getElem_cons_zero, List.getElem_cons_succ, List.setIfInBounds_toArray, List.set_cons_zero, List.set_cons_succ]
                    clear hcQ
                    refine wpAnyH_take (i := 15) (oi := _) (v := ?_) rfl (by kernel_rfl) (by kernel_rfl) (by kernel_rfl) (fun _ _ _ h => h) (Or.inl ⟨by rfl, ?_⟩) (by assumption) ?_
                    rotate_left
                    · (intro w hSw; (try dsimp only at hSw); go_simp; rw [HW.out, if_pos ⟨by omega, by omega⟩, Int.toNat_natCast, HA2.out])
                    try simp only [Act.put, List.getElem_toArray, List.getElem_cons_zero, List.getElem_cons_succ, List.setIfInBounds_toArray, List.set_cons_zero, List.set_cons_succ]
                    refine wpAnyH_ready (rs := [16]) (by kernel_rfl) (by simp) ?_
                    refine (AllReadyH.cons (o := _) rfl (fun K hK => ?_) AllReadyH.nil)
                    refine step_append_src _ (by rfl) _ _ 68 68 (by rfl) 0 90 i3 (.agg #[.int .i64 0, .string ⟨#[]⟩, .string ⟨#[]⟩, .int .i64 0, .int .i64 0]) 5 56 Try.underlying68 hi hz0 hz1 hz2 rfl _ i (flat memC (h2.ms.take i)) (by rfl) hs.head _ (h2.ms.length - (i + 1)) _ (by rfl) (own_src2 (f := memC) (fun _ => rfl) mem_one (hs.at 1 rfl) Try.underlying68 (i + 1) _ (by omega) HA3.out) (by unfold maxLen; omega) (by omega) (Nat.zero_le _) ?_
                    intro v' W hown' hgrow hat
                    have hown2 : W.ownsRow 0 90 5 v' (h2.ms.take i ++ h2.ms.drop (i + 1)).length (flat memC (h2.ms.take i ++ h2.ms.drop (i + 1))) := by rw [flat_append]; rw [show (h2.ms.take i ++ h2.ms.drop (i + 1)).length = i + (h2.ms.length - (i + 1)) by rw [List.length_append, List.length_take, List.length_drop]; omega]; exact hown'
                    obtain ⟨A11, c11, rfl⟩ := own_form hown2
                    obtain ⟨n11, hn11⟩ : ∃ n11, n11 = (h2.ms.take i ++ h2.ms.drop (i + 1)).length := ⟨_, rfl⟩
                    replace hs := hs.grown hgrow hown2 hat
                    rw [← hn11] at hs ⊢
                    have HN11 := Lib.hid hn11
                    clear hown' hown2 hgrow hat hn11
                    try clear hHeld
                    refine hK.out _ _ (by (try dsimp only); all_goals trivial) (fun hHeld => ?_)
                    clear hK K
                    try simp only [Act.put, List.getElem_toArray, List.getElem_cons_zero, List.getElem_cons_succ, List.setIfInBounds_toArray, List.set_cons_zero, List.set_cons_succ]
                    refine wpAnyH_take (i := 17) (oi := _) (v := ?_) rfl (by kernel_rfl) (by kernel_rfl) (by kernel_rfl) (fun _ _ _ h => h) (Or.inl ⟨by rfl, ?_⟩) (by assumption) ?_
                    rotate_left
                    · (intro w hSw; (try dsimp only at hSw); go_simp; try with_reducible rfl)
                    try simp only [Act.put, List.getElem_toArray, List.getElem_cons_zero, List.getElem_cons_succ, List.setIfInBounds_toArray, List.set_cons_zero, List.set_cons_succ]
                    refine wpAnyH_take (i := 18) (oi := _) (v := ?_) rfl (by kernel_rfl) (by kernel_rfl) (by kernel_rfl) (fun _ _ _ h => h) (Or.inl ⟨by rfl, ?_⟩) (by assumption) ?_
                    rotate_left
                    · (intro w hSw; (try dsimp only at hSw); go_simp; try with_reducible rfl)
                    try simp only [Act.put, List.getElem_toArray, List.getElem_cons_zero, List.getElem_cons_succ, List.setIfInBounds_toArray, List.set_cons_zero, List.set_cons_succ]
                    refine wpAnyH_ready (rs := [19]) (by kernel_rfl) (by simp) ?_
                    refine (AllReadyH.cons (o := _) rfl (fun K hK => ?_) AllReadyH.nil)
                    obtain ⟨hcQ, hfQ, hlQ⟩ := Blk.all (show Blk W p 71 _ from hs.at 4 rfl)
                    go_simp
                    replace hs := hs.set4 0 (.slice A11 n11 c11)
                    try clear hHeld
                    refine hK.out _ _ (by (try dsimp only); all_goals trivial) (fun hHeld => ?_)
                    clear hK K
                    try simp only [Act.put, List.getElem_toArray, List.getElem_cons_zero, List.getElem_cons_succ, List.setIfInBounds_toArray, List.set_cons_zero, List.set_cons_succ]
                    clear hcQ hfQ hlQ
                    refine wpAnyH_done (by kernel_rfl) ?_ _
                    generalize World.setCell _ _ _ = W at hs ⊢
                    replace hs := hs.swap1.drop
                    have HS := Lib.hid hs
                    clear hs
                    go_wp2
                    go_returns
                    refine Ret.mk (.refl I) HS.out ⟨rfl, ⟨by rw [HE3.out]; rfl, _, _, _, by rw [HE3.out]; unfold houR; dsimp only; rw [← HN11.out]; rfl⟩⟩
                  · skip
                    have hcQ : W.cell? ⟨p, 0, none⟩ = some (.slice (some ⟨g, 0, none⟩) h2.ms.length cc3) := by first | exact Blk.cell (hs.at 3 rfl) 0 | exact Blk.cell (hs.at 4 rfl) 0
                    go_simp
                    try clear hHeld
                    refine hK.out _ _ (by (try dsimp only); all_goals trivial) (fun hHeld => ?_)
                    clear hK K
                    try simp only [Act.put, List.getElem_toArray, List.getElem_cons_zero, List.getElem_cons_succ, List.setIfInBounds_toArray, List.set_cons_zero, List.set_cons_succ]
                    clear hcQ
                    refine wpAnyH_take (i := 15) (oi := _) (v := ?_) rfl (by kernel_rfl) (by kernel_rfl) (by kernel_rfl) (fun _ _ _ h => h) (Or.inl ⟨by rfl, ?_⟩) (by assumption) ?_
                    rotate_left
                    · (intro w hSw; (try dsimp only at hSw); go_simp; rw [HW.out, if_pos ⟨by omega, by omega⟩, Int.toNat_natCast, HA2.out])
                    try simp only [Act.put, List.getElem_toArray, List.getElem_cons_zero, List.getElem_cons_succ, List.setIfInBounds_toArray, List.set_cons_zero, List.set_cons_succ]
                    refine wpAnyH_ready (rs := [8]) (by kernel_rfl) (by simp) ?_
                    refine (AllReadyH.cons (o := _) rfl (fun K hK => ?_) AllReadyH.nil)
                    refine step_append_src _ (by rfl) _ _ 68 68 (by rfl) 0 90 i3 (.agg #[.int .i64 0, .string ⟨#[]⟩, .string ⟨#[]⟩, .int .i64 0, .int .i64 0]) 5 56 Try.underlying68 hi hz0 hz1 hz2 rfl _ 0 [] (by rfl) hs.head _ i _ (by rfl) (own_src (f := memC) (fun _ => rfl) mem_one (hs.at 1 rfl) Try.underlying68 0 i _ (by omega) (by omega)) (by unfold maxLen; omega) (by omega) (Nat.zero_le _) ?_
                    intro v' W hown' hgrow hat
                    have hown2 : W.ownsRow 0 90 5 v' i (flat memC (h2.ms.take i)) := by simpa using hown'
                    obtain ⟨A10, c10, rfl⟩ := own_form hown2
                    replace hs := hs.grown hgrow hown2 hat
                    clear hown' hown2 hgrow hat
                    try clear hHeld
                    refine hK.out _ _ (by (try dsimp only); all_goals trivial) (fun hHeld => ?_)
                    clear hK K
                    try simp only [Act.put, List.getElem_toArray, List.getElem_cons_zero, List.getElem_cons_succ, List.setIfInBounds_toArray, List.set_cons_zero, List.set_cons_succ]
                    refine wpAnyH_ready (rs := [16]) (by kernel_rfl) (by simp) ?_
                    refine (AllReadyH.cons (o := _) rfl (fun K hK => ?_) AllReadyH.nil)
                    refine step_append_src _ (by rfl) _ _ 68 68 (by rfl) 0 90 i3 (.agg #[.int .i64 0, .string ⟨#[]⟩, .string ⟨#[]⟩, .int .i64 0, .int .i64 0]) 5 56 Try.underlying68 hi hz0 hz1 hz2 rfl _ i (flat memC (h2.ms.take i)) (by rfl) hs.head _ (h2.ms.length - (i + 1)) _ (by rfl) (own_src2 (f := memC) (fun _ => rfl) mem_one (hs.at 1 rfl) Try.underlying68 (i + 1) _ (by omega) HA3.out) (by unfold maxLen; omega) (by omega) (Nat.zero_le _) ?_
                    intro v' W hown' hgrow hat
                    have hown2 : W.ownsRow 0 90 5 v' (h2.ms.take i ++ h2.ms.drop (i + 1)).length (flat memC (h2.ms.take i ++ h2.ms.drop (i + 1))) := by rw [flat_append]; rw [show (h2.ms.take i ++ h2.ms.drop (i + 1)).length = i + (h2.ms.length - (i + 1)) by rw [List.length_append, List.length_take, List.length_drop]; omega]; exact hown'
                    obtain ⟨A11, c11, rfl⟩ := own_form hown2
                    obtain ⟨n11, hn11⟩ : ∃ n11, n11 = (h2.ms.take i ++ h2.ms.drop (i + 1)).length := ⟨_, rfl⟩
                    replace hs := hs.grown hgrow hown2 hat
                    rw [← hn11] at hs ⊢
                    have HN11 := Lib.hid hn11
                    clear hown' hown2 hgrow hat hn11
                    try clear hHeld
                    refine hK.out _ _ (by (try dsimp only); all_goals trivial) (fun hHeld => ?_)
                    clear hK K
                    try simp only [Act.put, List.getElem_toArray, List.getElem_cons_zero, List.getElem_cons_succ, List.setIfInBounds_toArray, List.set_cons_zero, List.set_cons_succ]
                    refine wpAnyH_take (i := 17) (oi := _) (v := ?_) rfl (by kernel_rfl) (by kernel_rfl) (by kernel_rfl) (fun _ _ _ h => h) (Or.inl ⟨by rfl, ?_⟩) (by assumption) ?_
                    rotate_left
                    · (intro w hSw; (try dsimp only at hSw); go_simp; try with_reducible rfl)
                    try simp only [Act.put, List.getElem_toArray, List.getElem_cons_zero, List.getElem_cons_succ, List.setIfInBounds_toArray, List.set_cons_zero, List.set_cons_succ]
                    refine wpAnyH_take (i := 18) (oi := _) (v := ?_) rfl (by kernel_rfl) (by kernel_rfl) (by kernel_rfl) (fun _ _ _ h => h) (Or.inl ⟨by rfl, ?_⟩) (by assumption) ?_
                    rotate_left
                    · (intro w hSw; (try dsimp only at hSw); go_simp; try with_reducible rfl)
                    try simp only [Act.put, List.getElem_toArray, List.getElem_cons_zero, List.getElem_cons_succ, List.setIfInBounds_toArray, List.set_cons_zero, List.set_cons_succ]
                    refine wpAnyH_ready (rs := [19]) (by kernel_rfl) (by simp) ?_
                    refine (AllReadyH.cons (o := _) rfl (fun K hK => ?_) AllReadyH.nil)
                    obtain ⟨hcQ, hfQ, hlQ⟩ := Blk.all (show Blk W p 71 _ from hs.at 4 rfl)
                    go_simp
                    replace hs := hs.set4 0 (.slice A11 n11 c11)
                    try clear hHeld
                    refine hK.out _ _ (by (try dsimp only); all_goals trivial) (fun hHeld => ?_)
                    clear hK K
                    try simp only [Act.put, List.getElem_toArray, List.getElem_cons_zero, List.getElem_cons_succ, List.setIfInBounds_toArray, List.set_cons_zero, List.set_cons_succ]
                    clear hcQ hfQ hlQ
                    refine wpAnyH_done (by kernel_rfl) ?_ _
                    generalize World.setCell _ _ _ = W at hs ⊢
                    replace hs := hs.swap1.drop
                    have HS := Lib.hid hs
                    clear hs
                    go_wp2
                    go_returns
                    refine Ret.mk (.refl I) HS.out ⟨rfl, ⟨by rw [HE3.out]; rfl, _, _, _, by rw [HE3.out]; unfold houR; dsimp only; rw [← HN11.out]; rfl⟩⟩
                · skip
                  have hcQ : W.cell? ⟨p, 0, none⟩ = some (.slice (some ⟨g, 0, none⟩) h2.ms.length cc3) := by first | exact Blk.cell (hs.at 3 rfl) 0 | exact Blk.cell (hs.at 4 rfl) 0
                  go_simp
                  try clear hHeld
                  refine hK.out _ _ (by (try dsimp only); all_goals trivial) (fun hHeld => ?_)
                  clear hK K
                  try simp only [Act.put, List.getElem_toArray, List.getElem_cons_zero, List.getElem_cons_succ, List.setIfInBounds_toArray, List.set_cons_zero, List.set_cons_succ]
                  clear hcQ
                  refine wpAnyH_take (i := 15) (oi := _) (v := ?_) rfl (by kernel_rfl) (by kernel_rfl) (by kernel_rfl) (fun _ _ _ h => h) (Or.inl ⟨by rfl, ?_⟩) (by assumption) ?_
                  rotate_left
                  · (intro w hSw; (try dsimp only at hSw); go_simp; rw [HW.out, if_pos ⟨by omega, by omega⟩, Int.toNat_natCast, HA2.out])
                  try simp only [Act.put, List.getElem_toArray, List.getElem_cons_zero, List.getElem_cons_succ, List.setIfInBounds_toArray, List.set_cons_zero, List.set_cons_succ]
                  refine wpAnyH_ready (rs := [5]) (by kernel_rfl) (by simp) ?_
                  refine (AllReadyH.cons (o := _) rfl (fun K hK => ?_) AllReadyH.nil)
                  have hcQ : W.cell? ⟨p, 0, none⟩ = some (.slice (some ⟨g, 0, none⟩) h2.ms.length cc3) := by first | exact Blk.cell (hs.at 3 rfl) 0 | exact Blk.cell (hs.at 4 rfl) 0
                  go_simp
                  try clear hHeld
                  refine hK.out _ _ (by (try dsimp only); all_goals trivial) (fun hHeld => ?_)
                  clear hK K
                  try simp only [Act.put, List.getElem_toArray, List.getElem_cons_zero, List.getElem_cons_succ, List.setIfInBounds_toArray, List.set_cons_zero, List.set_cons_succ]
                  clear hcQ
                  refine wpAnyH_take (i := 7) (oi := _) (v := ?_) rfl (by kernel_rfl) (by kernel_rfl) (by kernel_rfl) (fun _ _ _ h => h) (Or.inl ⟨by rfl, ?_⟩) (by assumption) ?_
                  rotate_left
                  · (intro w hSw; (try dsimp only at hSw); go_simp; rw [if_pos (by omega)])
                  try simp only [Act.put, List.getElem_toArray, List.getElem_cons_zero, List.getElem_cons_succ, List.setIfInBounds_toArray, List.set_cons_zero, List.set_cons_succ]
                  refine wpAnyH_ready (rs := [8]) (by kernel_rfl) (by simp) ?_
                  refine (AllReadyH.cons (o := _) rfl (fun K hK => ?_) AllReadyH.nil)
                  refine step_append_src _ (by rfl) _ _ 68 68 (by rfl) 0 90 i3 (.agg #[.int .i64 0, .string ⟨#[]⟩, .string ⟨#[]⟩, .int .i64 0, .int .i64 0]) 5 56 Try.underlying68 hi hz0 hz1 hz2 rfl _ 0 [] (by rfl) hs.head _ i _ (by rfl) (own_src (f := memC) (fun _ => rfl) mem_one (hs.at 1 rfl) Try.underlying68 0 i _ (by omega) (by omega)) (by unfold maxLen; omega) (by omega) (Nat.zero_le _) ?_
                  intro v' W hown' hgrow hat
                  have hown2 : W.ownsRow 0 90 5 v' i (flat memC (h2.ms.take i)) := by simpa using hown'
                  obtain ⟨A10, c10, rfl⟩ := own_form hown2
                  replace hs := hs.grown hgrow hown2 hat
                  clear hown' hown2 hgrow hat
                  try clear hHeld
                  refine hK.out _ _ (by (try dsimp only); all_goals trivial) (fun hHeld => ?_)
                  clear hK K
                  try simp only [Act.put, List.getElem_toArray, List.getElem_cons_zero, List.getElem_cons_succ, List.setIfInBounds_toArray, List.set_cons_zero, List.set_cons_succ]
                  refine wpAnyH_ready (rs := [16]) (by kernel_rfl) (by simp) ?_
                  refine (AllReadyH.cons (o := _) rfl (fun K hK => ?_) AllReadyH.nil)
                  refine step_append_src _ (by rfl) _ _ 68 68 (by rfl) 0 90 i3 (.agg #[.int .i64 0, .string ⟨#[]⟩, .string ⟨#[]⟩, .int .i64 0, .int .i64 0]) 5 56 Try.underlying68 hi hz0 hz1 hz2 rfl _ i (flat memC (h2.ms.take i)) (by rfl) hs.head _ (h2.ms.length - (i + 1)) _ (by rfl) (own_src2 (f := memC) (fun _ => rfl) mem_one (hs.at 1 rfl) Try.underlying68 (i + 1) _ (by omega) HA3.out) (by unfold maxLen; omega) (by omega) (Nat.zero_le _) ?_
                  intro v' W hown' hgrow hat
                  have hown2 : W.ownsRow 0 90 5 v' (h2.ms.take i ++ h2.ms.drop (i + 1)).length (flat memC (h2.ms.take i ++ h2.ms.drop (i + 1))) := by rw [flat_append]; rw [show (h2.ms.take i ++ h2.ms.drop (i + 1)).length = i + (h2.ms.length - (i + 1)) by rw [List.length_append, List.length_take, List.length_drop]; omega]; exact hown'
                  obtain ⟨A11, c11, rfl⟩ := own_form hown2
                  obtain ⟨n11, hn11⟩ : ∃ n11, n11 = (h2.ms.take i ++ h2.ms.drop (i + 1)).length := ⟨_, rfl⟩
                  replace hs := hs.grown hgrow hown2 hat
                  rw [← hn11] at hs ⊢
                  have HN11 := Lib.hid hn11
                  clear hown' hown2 hgrow hat hn11
                  try clear hHeld
                  refine hK.out _ _ (by (try dsimp only); all_goals trivial) (fun hHeld => ?_)
                  clear hK K
                  try simp only [Act.put, List.getElem_toArray, List.getElem_cons_zero, List.getElem_cons_succ, List.setIfInBounds_toArray, List.set_cons_zero, List.set_cons_succ]
                  refine wpAnyH_take (i := 17) (oi := _) (v := ?_) rfl (by kernel_rfl) (by kernel_rfl) (by kernel_rfl) (fun _ _ _ h => h) (Or.inl ⟨by rfl, ?_⟩) (by assumption) ?_
                  rotate_left
                  · (intro w hSw; (try dsimp only at hSw); go_simp; try with_reducible rfl)
                  try simp only [Act.put, List.getElem_toArray, List.getElem_cons_zero, List.getElem_cons_succ, List.setIfInBounds_toArray, List.set_cons_zero, List.set_cons_succ]
                  refine wpAnyH_take (i := 18) (oi := _) (v := ?_) rfl (by kernel_rfl) (by kernel_rfl) (by kernel_rfl) (fun _ _ _ h => h) (Or.inl ⟨by rfl, ?_⟩) (by assumption) ?_
                  rotate_left
                  · (intro w hSw; (try dsimp only at hSw); go_simp; try with_reducible rfl)
                  try simp only [Act.put, List.getElem_toArray, List.getElem_cons_zero, List.getElem_cons_succ, List.setIfInBounds_toArray, List.set_cons_zero, List.set_cons_succ]
                  refine wpAnyH_ready (rs := [19]) (by kernel_rfl) (by simp) ?_
                  refine (AllReadyH.cons (o := _) rfl (fun K hK => ?_) AllReadyH.nil)
                  obtain ⟨hcQ, hfQ, hlQ⟩ := Blk.all (show Blk W p 71 _ from hs.at 4 rfl)
                  go_simp
                  replace hs := hs.set4 0 (.slice A11 n11 c11)
                  try clear hHeld
                  refine hK.out _ _ (by (try dsimp only); all_goals trivial) (fun hHeld => ?_)
                  clear hK K
                  try simp only [Act.put, List.getElem_toArray, List.getElem_cons_zero, List.getElem_cons_succ, List.setIfInBounds_toArray, List.set_cons_zero, List.set_cons_succ]
                  clear hcQ hfQ hlQ
                  refine wpAnyH_done (by kernel_rfl) ?_ _
                  generalize World.setCell _ _ _ = W at hs ⊢
                  replace hs := hs.swap1.drop
                  have HS := Lib.hid hs
                  clear hs
                  go_wp2
                  go_returns
                  refine Ret.mk (.refl I) HS.out ⟨rfl, ⟨by rw [HE3.out]; rfl, _, _, _, by rw [HE3.out]; unfold houR; dsimp only; rw [← HN11.out]; rfl⟩⟩
              · skip
                have hcQ : W.cell? ⟨p, 0, none⟩ = some (.slice (some ⟨g, 0, none⟩) h2.ms.length cc3) := by first | exact Blk.cell (hs.at 3 rfl) 0 | exact Blk.cell (hs.at 4 rfl) 0
                go_simp
                try clear hHeld
                refine hK.out _ _ (by (try dsimp only); all_goals trivial) (fun hHeld => ?_)
                clear hK K
                try simp only [Act.put, List.getElem_toArray, List.getElem_cons_zero, List.getElem_cons_succ, List.setIfInBounds_toArray, List.set_cons_zero, List.set_cons_succ]
                clear hcQ
                refine wpAnyH_take (i := 7) (oi := _) (v := ?_) rfl (by kernel_rfl) (by kernel_rfl) (by kernel_rfl) (fun _ _ _ h => h) (Or.inl ⟨by rfl, ?_⟩) (by assumption) ?_
                rotate_left
                · (intro w hSw; (try dsimp only at hSw); go_simp; rw [if_pos (by omega)])
                try simp only [Act.put, List.getElem_toArray, List.getElem_cons_zero, List.getElem_cons_succ, List.setIfInBounds_toArray, List.set_cons_zero, List.set_cons_succ]
                refine wpAnyH_ready (rs := [1, 12]) (by kernel_rfl) (by simp) ?_
                refine (AllReadyH.cons (o := _) rfl (fun K hK => ?_) (AllReadyH.cons (o := _) rfl (fun K hK => ?_) AllReadyH.nil))
                · skip
                  go_simp
                  try clear hHeld
                  refine hK.out _ _ (by (try dsimp only); all_goals trivial) (fun hHeld => ?_)
                  clear hK K
                  try simp only [Act.put, List.getElem_toArray, List.getElem_cons_zero, List.getElem_cons_succ, List.setIfInBounds_toArray, List.set_cons_zero, List.set_cons_succ]
                  generalize hw : World.alloc W _ = W at hHeld ⊢
                  replace hs := hs.lit0S (s := 5) hw
                  clear hw
                  refine wpAnyH_ready (rs := [8, 12]) (by kernel_rfl) (by simp) ?_
                  refine (AllReadyH.cons (o := _) rfl (fun K hK => ?_) (AllReadyH.cons (o := _) rfl (fun K hK => ?_) AllReadyH.nil))
                  · skip
                    refine step_append_src _ (by rfl) _ _ 68 68 (by rfl) 0 90 i3 (.agg #[.int .i64 0, .string ⟨#[]⟩, .string ⟨#[]⟩, .int .i64 0, .int .i64 0]) 5 56 Try.underlying68 hi hz0 hz1 hz2 rfl _ 0 [] (by rfl) hs.head _ i _ (by rfl) (own_src (f := memC) (fun _ => rfl) mem_one (hs.at 1 rfl) Try.underlying68 0 i _ (by omega) (by omega)) (by unfold maxLen; omega) (by omega) (Nat.zero_le _) ?_
                    intro v' W hown' hgrow hat
                    have hown2 : W.ownsRow 0 90 5 v' i (flat memC (h2.ms.take i)) := by simpa using hown'
                    obtain ⟨A10, c10, rfl⟩ := own_form hown2
                    replace hs := hs.grown hgrow hown2 hat
                    clear hown' hown2 hgrow hat
                    try clear hHeld
                    refine hK.out _ _ (by (try dsimp only); all_goals trivial) (fun hHeld => ?_)
                    clear hK K
                    try simp only [Act.put, List.getElem_toArray, List.getElem_cons_zero, List.getElem_cons_succ, List.setIfInBounds_toArray, List.set_cons_zero, List.set_cons_succ]
                    refine wpAnyH_ready (rs := [12]) (by kernel_rfl) (by simp) ?_
                    refine (AllReadyH.cons (o := _) rfl (fun K hK => ?_) AllReadyH.nil)
                    have hcQ : W.cell? ⟨p, 0, none⟩ = some (.slice (some ⟨g, 0, none⟩) h2.ms.length cc3) := by first | exact Blk.cell (hs.at 3 rfl) 0 | exact Blk.cell (hs.at 4 rfl) 0
                    go_simp
                    try clear hHeld
                    refine hK.out _ _ (by (try dsimp only); all_goals trivial) (fun hHeld => ?_)
                    clear hK K
                    try simp only [Act.put, List.getElem_toArray, List.getElem_cons_zero, List.getElem_cons_succ, List.setIfInBounds_toArray, List.set_cons_zero, List.set_cons_succ]
                    clear hcQ
                    refine wpAnyH_take (i := 15) (oi := _) (v := ?_) rfl (by kernel_rfl) (by kernel_rfl) (by kernel_rfl) (fun _ _ _ h => h) (Or.inl ⟨by rfl, ?_⟩) (by assumption) ?_
                    rotate_left
                    · (intro w hSw; (try dsimp only at hSw); go_simp; rw [HW.out, if_pos ⟨by omega, by omega⟩, Int.toNat_natCast, HA2.out])
                    try simp only [Act.put, List.getElem_toArray, List.getElem_cons_zero, List.getElem_cons_succ, List.setIfInBounds_toArray, List.set_cons_zero, List.set_cons_succ]
                    refine wpAnyH_ready (rs := [16]) (by kernel_rfl) (by simp) ?_
                    refine (AllReadyH.cons (o := _) rfl (fun K hK => ?_) AllReadyH.nil)
                    refine step_append_src _ (by rfl) _ _ 68 68 (by rfl) 0 90 i3 (.agg #[.int .i64 0, .string ⟨#[]⟩, .string ⟨#[]⟩, .int .i64 0, .int .i64 0]) 5 56 Try.underlying68 hi hz0 hz1 hz2 rfl _ i (flat memC (h2.ms.take i)) (by rfl) hs.head _ (h2.ms.length - (i + 1)) _ (by rfl) (own_src2 (f := memC) (fun _ => rfl) mem_one (hs.at 1 rfl) Try.underlying68 (i + 1) _ (by omega) HA3.out) (by unfold maxLen; omega) (by omega) (Nat.zero_le _) ?_
                    intro v' W hown' hgrow hat
                    have hown2 : W.ownsRow 0 90 5 v' (h2.ms.take i ++ h2.ms.drop (i + 1)).length (flat memC (h2.ms.take i ++ h2.ms.drop (i + 1))) := by rw [flat_append]; rw [show (h2.ms.take i ++ h2.ms.drop (i + 1)).length = i + (h2.ms.length - (i + 1)) by rw [List.length_append, List.length_take, List.length_drop]; omega]; exact hown'
                    obtain ⟨A11, c11, rfl⟩ := own_form hown2
                    obtain ⟨n11, hn11⟩ : ∃ n11, n11 = (h2.ms.take i ++ h2.ms.drop (i + 1)).length := ⟨_, rfl⟩
                    replace hs := hs.grown hgrow hown2 hat
                    rw [← hn11] at hs ⊢
                    have HN11 := Lib.hid hn11
                    clear hown' hown2 hgrow hat hn11
                    try clear hHeld
                    refine hK.out _ _ (by (try dsimp only); all_goals trivial) (fun hHeld => ?_)
                    clear hK K
                    try simp only [Act.put, List.getElem_toArray, List.getElem_cons_zero, List.getElem_cons_succ, List.setIfInBounds_toArray, List.set_cons_zero, List.set_cons_succ]
                    refine wpAnyH_take (i := 17) (oi := _) (v := ?_) rfl (by kernel_rfl) (by kernel_rfl) (by kernel_rfl) (fun _ _ _ h => h) (Or.inl ⟨by rfl, ?_⟩) (by assumption) ?_
                    rotate_left
                    · (intro w hSw; (try dsimp only at hSw); go_simp; try with_reducible rfl)
                    try simp only [Act.put, List.getElem_toArray, List.getElem_cons_zero, List.getElem_cons_succ, List.setIfInBounds_toArray, List.set_cons_zero, List.set_cons_succ]
                    refine wpAnyH_take (i := 18) (oi := _) (v := ?_) rfl (by kernel_rfl) (by kernel_rfl) (by kernel_rfl) (fun _ _ _ h => h) (Or.inl ⟨by rfl, ?_⟩) (by assumption) ?_
                    rotate_left
                    · (intro w hSw; (try dsimp only at hSw); go_simp; try with_reducible rfl)
                    try simp only [Act.put, List.getElem_toArray, List.getElem_cons_zero, List.getElem_cons_succ, List.setIfInBounds_toArray, List.set_cons_zero, List.set_cons_succ]
                    refine wpAnyH_ready (rs := [19]) (by kernel_rfl) (by simp) ?_
                    refine (AllReadyH.cons (o := _) rfl (fun K hK => ?_) AllReadyH.nil)
                    obtain ⟨hcQ, hfQ, hlQ⟩ := Blk.all (show Blk W p 71 _ from hs.at 4 rfl)
                    go_simp
                    replace hs := hs.set4 0 (.slice A11 n11 c11)
                    try clear hHeld
                    refine hK.out _ _ (by (try dsimp only); all_goals trivial) (fun hHeld => ?_)
                    clear hK K
                    try simp only [Act.put, List.getElem_toArray, List.getElem_cons_zero, List.getElem_cons_succ, List.setIfInBounds_toArray, List.set_cons_zero, List.set_cons_succ]
                    clear hcQ hfQ hlQ
                    refine wpAnyH_done (by kernel_rfl) ?_ _
                    generalize World.setCell _ _ _ = W at hs ⊢
                    replace hs := hs.swap1.drop
                    have HS := Lib.hid hs
                    clear hs
                    go_wp2
                    go_returns
                    refine Ret.mk (.refl I) HS.out ⟨rfl, ⟨by rw [HE3.out]; rfl, _, _, _, by rw [HE3.out]; unfold houR; dsimp only; rw [← HN11.out]; rfl⟩⟩
                  · skip
                    have hcQ : W.cell? ⟨p, 0, none⟩ = some (.slice (some ⟨g, 0, none⟩) h2.ms.length cc3) := by first | exact Blk.cell (hs.at 3 rfl) 0 | exact Blk.cell (hs.at 4 rfl) 0
                    go_simp
                    try clear hHeld
                    refine hK.out _ _ (by (try dsimp only); all_goals trivial) (fun hHeld => ?_)
                    clear hK K
                    try simp only [Act.put, List.getElem_toArray, List.getElem_cons_zero, List.getElem_cons_succ, List.setIfInBounds_toArray, List.set_cons_zero, List.set_cons_succ]
                    clear hcQ
                    refine wpAnyH_take (i := 15) (oi := _) (v := ?_) rfl (by kernel_rfl) (by kernel_rfl) (by kernel_rfl) (fun _ _ _ h => h) (Or.inl ⟨by rfl, ?_⟩) (by assumption) ?_
                    rotate_left
                    · (intro w hSw; (try dsimp only at hSw); go_simp; rw [HW.out, if_pos ⟨by omega, by omega⟩, Int.toNat_natCast, HA2.out])
                    try simp only [Act.put, List.getElem_toArray, List.getElem_cons_zero, List.getElem_cons_succ, List.setIfInBounds_toArray, List.set_cons_zero, List.set_cons_succ]
                    refine wpAnyH_ready (rs := [8]) (by kernel_rfl) (by simp) ?_
                    refine (AllReadyH.cons (o := _) rfl (fun K hK => ?_) AllReadyH.nil)
                    refine step_append_src _ (by rfl) _ _ 68 68 (by rfl) 0 90 i3 (.agg #[.int .i64 0, .string ⟨#[]⟩, .string ⟨#[]⟩, .int .i64 0, .int .i64 0]) 5 56 Try.underlying68 hi hz0 hz1 hz2 rfl _ 0 [] (by rfl) hs.head _ i _ (by rfl) (own_src (f := memC) (fun _ => rfl) mem_one (hs.at 1 rfl) Try.underlying68 0 i _ (by omega) (by omega)) (by unfold maxLen; omega) (by omega) (Nat.zero_le _) ?_
                    intro v' W hown' hgrow hat
                    have hown2 : W.ownsRow 0 90 5 v' i (flat memC (h2.ms.take i)) := by simpa using hown'
                    obtain ⟨A10, c10, rfl⟩ := own_form hown2
                    replace hs := hs.grown hgrow hown2 hat
                    clear hown' hown2 hgrow hat
                    try clear hHeld
                    refine hK.out _ _ (by (try dsimp only); all_goals trivial) (fun hHeld => ?_)
                    clear hK K
                    try simp only [Act.put, List.getElem_toArray, List.getElem_cons_zero, List.getElem_cons_succ, List.setIfInBounds_toArray, List.set_cons_zero, List.set_cons_succ]
                    refine wpAnyH_ready (rs := [16]) (by kernel_rfl) (by simp) ?_
                    refine (AllReadyH.cons (o := _) rfl (fun K hK => ?_) AllReadyH.nil)
                    refine step_append_src _ (by rfl) _ _ 68 68 (by rfl) 0 90 i3 (.agg #[.int .i64 0, .string ⟨#[]⟩, .string ⟨#[]⟩, .int .i64 0, .int .i64 0]) 5 56 Try.underlying68 hi hz0 hz1 hz2 rfl _ i (flat memC (h2.ms.take i)) (by rfl) hs.head _ (h2.ms.length - (i + 1)) _ (by rfl) (own_src2 (f := memC) (fun _ => rfl) mem_one (hs.at 1 rfl) Try.underlying68 (i + 1) _ (by omega) HA3.out) (by unfold maxLen; omega) (by omega) (Nat.zero_le _) ?_
                    intro v' W hown' hgrow hat
                    have hown2 : W.ownsRow 0 90 5 v' (h2.ms.take i ++ h2.ms.drop (i + 1)).length (flat memC (h2.ms.take i ++ h2.ms.drop (i + 1))) := by rw [flat_append]; rw [show (h2.ms.take i ++ h2.ms.drop (i + 1)).length = i + (h2.ms.length - (i + 1)) by rw [List.length_append, List.length_take, List.length_drop]; omega]; exact hown'
                    obtain ⟨A11, c11, rfl⟩ := own_form hown2
                    obtain ⟨n11, hn11⟩ : ∃ n11, n11 = (h2.ms.take i ++ h2.ms.drop (i + 1)).length := ⟨_, rfl⟩
                    replace hs := hs.grown hgrow hown2 hat
                    rw [← hn11] at hs ⊢
                    have HN11 := Lib.hid hn11
                    clear hown' hown2 hgrow hat hn11
                    try clear hHeld
                    refine hK.out _ _ (by (try dsimp only); all_goals trivial) (fun hHeld => ?_)
                    clear hK K
                    try simp only [Act.put, List.getElem_toArray, List.getElem_cons_zero, List.getElem_cons_succ, List.setIfInBounds_toArray, List.set_cons_zero, List.set_cons_succ]
                    refine wpAnyH_take (i := 17) (oi := _) (v := ?_) rfl (by kernel_rfl) (by kernel_rfl) (by kernel_rfl) (fun _ _ _ h => h) (Or.inl ⟨by rfl, ?_⟩) (by assumption) ?_
                    rotate_left
                    · (intro w hSw; (try dsimp only at hSw); go_simp; try with_reducible rfl)
                    try simp only [Act.put, List.getElem_toArray, List.getElem_cons_zero, List.getElem_cons_succ, List.setIfInBounds_toArray, List.set_cons_zero, List.set_cons_succ]
                    refine wpAnyH_take (i := 18) (oi := _) (v := ?_) rfl (by kernel_rfl) (by kernel_rfl) (by kernel_rfl) (fun _ _ _ h => h) (Or.inl ⟨by rfl, ?_⟩) (by assumption) ?_
                    rotate_left
                    · (intro w hSw; (try dsimp only at hSw); go_simp; try with_reducible rfl)
                    try simp only [Act.put, List.getElem_toArray, List.getElem_cons_zero, List.getElem_cons_succ, List.setIfInBounds_toArray, List.set_cons_zero, List.set_cons_succ]
                    refine wpAnyH_ready (rs := [19]) (by kernel_rfl) (by simp) ?_
                    refine (AllReadyH.cons (o := _) rfl (fun K hK => ?_) AllReadyH.nil)
                    obtain ⟨hcQ, hfQ, hlQ⟩ := Blk.all (show Blk W p 71 _ from hs.at 4 rfl)
                    go_simp
                    replace hs := hs.set4 0 (.slice A11 n11 c11)
                    try clear hHeld
                    refine hK.out _ _ (by (try dsimp only); all_goals trivial) (fun hHeld => ?_)
                    clear hK K
                    try simp only [Act.put, List.getElem_toArray, List.getElem_cons_zero, List.getElem_cons_succ, List.setIfInBounds_toArray, List.set_cons_zero, List.set_cons_succ]
                    clear hcQ hfQ hlQ
                    refine wpAnyH_done (by kernel_rfl) ?_ _
                    generalize World.setCell _ _ _ = W at hs ⊢
                    replace hs := hs.swap1.drop
                    have HS := Lib.hid hs
                    clear hs
                    go_wp2
                    go_returns
                    refine Ret.mk (.refl I) HS.out ⟨rfl, ⟨by rw [HE3.out]; rfl, _, _, _, by rw [HE3.out]; unfold houR; dsimp only; rw [← HN11.out]; rfl⟩⟩
                · skip
                  have hcQ : W.cell? ⟨p, 0, none⟩ = some (.slice (some ⟨g, 0, none⟩) h2.ms.length cc3) := by first | exact Blk.cell (hs.at 3 rfl) 0 | exact Blk.cell (hs.at 4 rfl) 0
                  go_simp
                  try clear hHeld
                  refine hK.out _ _ (by (try dsimp only); all_goals trivial) (fun hHeld => ?_)
                  clear hK K
                  try simp only [Act.put, List.getElem_toArray, List.getElem_cons_zero, List.getElem_cons_succ, List.setIfInBounds_toArray, List.set_cons_zero, List.set_cons_succ]
                  clear hcQ
                  refine wpAnyH_take (i := 15) (oi := _) (v := ?_) rfl (by kernel_rfl) (by kernel_rfl) (by kernel_rfl) (fun _ _ _ h => h) (Or.inl ⟨by rfl, ?_⟩) (by assumption) ?_
                  rotate_left
                  · (intro w hSw; (try dsimp only at hSw); go_simp; rw [HW.out, if_pos ⟨by omega, by omega⟩, Int.toNat_natCast, HA2.out])
                  try simp only [Act.put, List.getElem_toArray, List.getElem_cons_zero, List.getElem_cons_succ, List.setIfInBounds_toArray, List.set_cons_zero, List.set_cons_succ]
                  refine wpAnyH_ready (rs := [1]) (by kernel_rfl) (by simp) ?_
                  refine (AllReadyH.cons (o := _) rfl (fun K hK => ?_) AllReadyH.nil)
                  go_simp
                  try clear hHeld
                  refine hK.out _ _ (by (try dsimp only); all_goals trivial) (fun hHeld => ?_)
                  clear hK K
                  try simp only [Act.put, List.getElem_toArray, List.getElem_cons_zero, List.getElem_cons_succ, List.setIfInBounds_toArray, List.set_cons_zero, List.set_cons_succ]
                  generalize hw : World.alloc W _ = W at hHeld ⊢
                  replace hs := hs.lit0S (s := 5) hw
                  clear hw
                  refine wpAnyH_ready (rs := [8]) (by kernel_rfl) (by simp) ?_
                  refine (AllReadyH.cons (o := _) rfl (fun K hK => ?_) AllReadyH.nil)
                  refine step_append_src _ (by rfl) _ _ 68 68 (by rfl) 0 90 i3 (.agg #[.int .i64 0, .string ⟨#[]⟩, .string ⟨#[]⟩, .int .i64 0, .int .i64 0]) 5 56 Try.underlying68 hi hz0 hz1 hz2 rfl _ 0 [] (by rfl) hs.head _ i _ (by rfl) (own_src (f := memC) (fun _ => rfl) mem_one (hs.at 1 rfl) Try.underlying68 0 i _ (by omega) (by omega)) (by unfold maxLen; omega) (by omega) (Nat.zero_le _) ?_
                  intro v' W hown' hgrow hat
                  have hown2 : W.ownsRow 0 90 5 v' i (flat memC (h2.ms.take i)) := by simpa using hown'
                  obtain ⟨A10, c10, rfl⟩ := own_form hown2
                  replace hs := hs.grown hgrow hown2 hat
                  clear hown' hown2 hgrow hat
                  try clear hHeld
                  refine hK.out _ _ (by (try dsimp only); all_goals trivial) (fun hHeld => ?_)
                  clear hK K
                  try simp only [Act.put, List.getElem_toArray, List.getElem_cons_zero, List.getElem_cons_succ, List.setIfInBounds_toArray, List.set_cons_zero, List.set_cons_succ]
                  refine wpAnyH_ready (rs := [16]) (by kernel_rfl) (by simp) ?_
                  refine (AllReadyH.cons (o := _) rfl (fun K hK => ?_) AllReadyH.nil)
                  refine step_append_src _ (by rfl) _ _ 68 68 (by rfl) 0 90 i3 (.agg #[.int .i64 0, .string ⟨#[]⟩, .string ⟨#[]⟩, .int .i64 0, .int .i64 0]) 5 56 Try.underlying68 hi hz0 hz1 hz2 rfl _ i (flat memC (h2.ms.take i)) (by rfl) hs.head _ (h2.ms.length - (i + 1)) _ (by rfl) (own_src2 (f := memC) (fun _ => rfl) mem_one (hs.at 1 rfl) Try.underlying68 (i + 1) _ (by omega) HA3.out) (by unfold maxLen; omega) (by omega) (Nat.zero_le _) ?_
                  intro v' W hown' hgrow hat
                  have hown2 : W.ownsRow 0 90 5 v' (h2.ms.take i ++ h2.ms.drop (i + 1)).length (flat memC (h2.ms.take i ++ h2.ms.drop (i + 1))) := by rw [flat_append]; rw [show (h2.ms.take i ++ h2.ms.drop (i + 1)).length = i + (h2.ms.length - (i + 1)) by rw [List.length_append, List.length_take, List.length_drop]; omega]; exact hown'
                  obtain ⟨A11, c11, rfl⟩ := own_form hown2
                  obtain ⟨n11, hn11⟩ : ∃ n11, n11 = (h2.ms.take i ++ h2.ms.drop (i + 1)).length := ⟨_, rfl⟩
                  replace hs := hs.grown hgrow hown2 hat
                  rw [← hn11] at hs ⊢
                  have HN11 := Lib.hid hn11
                  clear hown' hown2 hgrow hat hn11
                  try clear hHeld
                  refine hK.out _ _ (by (try dsimp only); all_goals trivial) (fun hHeld => ?_)
                  clear hK K
                  try simp only [Act.put, List.getElem_toArray, List.getElem_cons_zero, List.getElem_cons_succ, List.setIfInBounds_toArray, List.set_cons_zero, List.set_cons_succ]
                  refine wpAnyH_take (i := 17) (oi := _) (v := ?_) rfl (by kernel_rfl) (by kernel_rfl) (by kernel_rfl) (fun _ _ _ h => h) (Or.inl ⟨by rfl, ?_⟩) (by assumption) ?_
                  rotate_left
                  · (intro w hSw; (try dsimp only at hSw); go_simp; try with_reducible rfl)
                  try simp only [Act.put, List.getElem_toArray, List.getElem_cons_zero, List.getElem_cons_succ, List.setIfInBounds_toArray, List.set_cons_zero, List.set_cons_succ]
                  refine wpAnyH_take (i := 18) (oi := _) (v := ?_) rfl (by kernel_rfl) (by kernel_rfl) (by kernel_rfl) (fun _ _ _ h => h) (Or.inl ⟨by rfl, ?_⟩) (by assumption) ?_
                  rotate_left
                  · (intro w hSw; (try dsimp only at hSw); go_simp; try with_reducible rfl)
                  try simp only [Act.put, List.getElem_toArray, List.getElem_cons_zero, List.getElem_cons_succ, List.setIfInBounds_toArray, List.set_cons_zero, List.set_cons_succ]
                  refine wpAnyH_ready (rs := [19]) (by kernel_rfl) (by simp) ?_
                  refine (AllReadyH.cons (o := _) rfl (fun K hK => ?_) AllReadyH.nil)
                  obtain ⟨hcQ, hfQ, hlQ⟩ := Blk.all (show Blk W p 71 _ from hs.at 4 rfl)
                  go_simp
                  replace hs := hs.set4 0 (.slice A11 n11 c11)
                  try clear hHeld
                  refine hK.out _ _ (by (try dsimp only); all_goals trivial) (fun hHeld => ?_)
                  clear hK K
                  try simp only [Act.put, List.getElem_toArray, List.getElem_cons_zero, List.getElem_cons_succ, List.setIfInBounds_toArray, List.set_cons_zero, List.set_cons_succ]
                  clear hcQ hfQ hlQ
                  refine wpAnyH_done (by kernel_rfl) ?_ _
                  generalize World.setCell _ _ _ = W at hs ⊢
                  replace hs := hs.swap1.drop
                  have HS := Lib.hid hs
                  clear hs
                  go_wp2
                  go_returns
                  refine Ret.mk (.refl I) HS.out ⟨rfl, ⟨by rw [HE3.out]; rfl, _, _, _, by rw [HE3.out]; unfold houR; dsimp only; rw [← HN11.out]; rfl⟩⟩
              · skip
                have hcQ : W.cell? ⟨p, 0, none⟩ = some (.slice (some ⟨g, 0, none⟩) h2.ms.length cc3) := by first | exact Blk.cell (hs.at 3 rfl) 0 | exact Blk.cell (hs.at 4 rfl) 0
                go_simp
                try clear hHeld
                refine hK.out _ _ (by (try dsimp only); all_goals trivial) (fun hHeld => ?_)
                clear hK K
                try simp only [Act.put, List.getElem_toArray, List.getElem_cons_zero, List.getElem_cons_succ, List.setIfInBounds_toArray, List.set_cons_zero, List.set_cons_succ]
                clear hcQ
                refine wpAnyH_take (i := 15) (oi := _) (v := ?_) rfl (by kernel_rfl) (by kernel_rfl) (by kernel_rfl) (fun _ _ _ h => h) (Or.inl ⟨by rfl, ?_⟩) (by assumption) ?_
                rotate_left
                · (intro w hSw; (try dsimp only at hSw); go_simp; rw [HW.out, if_pos ⟨by omega, by omega⟩, Int.toNat_natCast, HA2.out])
                try simp only [Act.put, List.getElem_toArray, List.getElem_cons_zero, List.getElem_cons_succ, List.setIfInBounds_toArray, List.set_cons_zero, List.set_cons_succ]
                refine wpAnyH_ready (rs := [1, 5]) (by kernel_rfl) (by simp) ?_
                refine (AllReadyH.cons (o := _) rfl (fun K hK => ?_) (AllReadyH.cons (o := _) rfl (fun K hK => ?_) AllReadyH.nil))
                · skip
                  go_simp
                  try clear hHeld
                  refine hK.out _ _ (by (try dsimp only); all_goals trivial) (fun hHeld => ?_)
                  clear hK K
                  try simp only [Act.put, List.getElem_toArray, List.getElem_cons_zero, List.getElem_cons_succ, List.setIfInBounds_toArray, List.set_cons_zero, List.set_cons_succ]
                  generalize hw : World.alloc W _ = W at hHeld ⊢
                  replace hs := hs.lit0S (s := 5) hw
                  clear hw
                  refine wpAnyH_ready (rs := [5]) (by kernel_rfl) (by simp) ?_
                  refine (AllReadyH.cons (o := _) rfl (fun K hK => ?_) AllReadyH.nil)
                  have hcQ : W.cell? ⟨p, 0, none⟩ = some (.slice (some ⟨g, 0, none⟩) h2.ms.length cc3) := by first | exact Blk.cell (hs.at 3 rfl) 0 | exact Blk.cell (hs.at 4 rfl) 0
                  go_simp
                  try clear hHeld
                  refine hK.out _ _ (by (try dsimp only); all_goals trivial) (fun hHeld => ?_)
                  clear hK K
                  try simp only [Act.put, List.getElem_toArray, List.getElem_cons_zero, List.getElem_cons_succ, List.setIfInBounds_toArray, List.set_cons_zero, List.set_cons_succ]
                  clear hcQ
                  refine wpAnyH_take (i := 7) (oi := _) (v := ?_) rfl (by kernel_rfl) (by kernel_rfl) (by kernel_rfl) (fun _ _ _ h => h) (Or.inl ⟨by rfl, ?_⟩) (by assumption) ?_
                  rotate_left
                  · (intro w hSw; (try dsimp only at hSw); go_simp; rw [if_pos (by omega)])
                  try simp only [Act.put, List.getElem_toArray, List.getElem_cons_zero, List.getElem_cons_succ, List.setIfInBounds_toArray, List.set_cons_zero, List.set_cons_succ]
                  refine wpAnyH_ready (rs := [8]) (by kernel_rfl) (by simp) ?_
                  refine (AllReadyH.cons (o := _) rfl (fun K hK => ?_) AllReadyH.nil)
                  refine step_append_src _ (by rfl) _ _ 68 68 (by rfl) 0 90 i3 (.agg #[.int .i64 0, .string ⟨#[]⟩, .string ⟨#[]⟩, .int .i64 0, .int .i64 0]) 5 56 Try.underlying68 hi hz0 hz1 hz2 rfl _ 0 [] (by rfl) hs.head _ i _ (by rfl) (own_src (f := memC) (fun _ => rfl) mem_one (hs.at 1 rfl) Try.underlying68 0 i _ (by omega) (by omega)) (by unfold maxLen; omega) (by omega) (Nat.zero_le _) ?_
                  intro v' W hown' hgrow hat
                  have hown2 : W.ownsRow 0 90 5 v' i (flat memC (h2.ms.take i)) := by simpa using hown'
                  obtain ⟨A10, c10, rfl⟩ := own_form hown2
                  replace hs := hs.grown hgrow hown2 hat
                  clear hown' hown2 hgrow hat
                  try clear hHeld
                  refine hK.out _ _ (by (try dsimp only); all_goals trivial) (fun hHeld => ?_)
                  clear hK K
                  try simp only [Act.put, List.getElem_toArray, List.getElem_cons_zero, List.getElem_cons_succ, List.setIfInBounds_toArray, List.set_cons_zero, List.set_cons_succ]
                  refine wpAnyH_ready (rs := [16]) (by kernel_rfl) (by simp) ?_
                  refine (AllReadyH.cons (o := _) rfl (fun K hK => ?_) AllReadyH.nil)
                  refine step_append_src _ (by rfl) _ _ 68 68 (by rfl) 0 90 i3 (.agg #[.int .i64 0, .string ⟨#[]⟩, .string ⟨#[]⟩, .int .i64 0, .int .i64 0]) 5 56 Try.underlying68 hi hz0 hz1 hz2 rfl _ i (flat memC (h2.ms.take i)) (by rfl) hs.head _ (h2.ms.length - (i + 1)) _ (by rfl) (own_src2 (f := memC) (fun _ => rfl) mem_one (hs.at 1 rfl) Try.underlying68 (i + 1) _ (by omega) HA3.out) (by unfold maxLen; omega) (by omega) (Nat.zero_le _) ?_
                  intro v' W hown' hgrow hat
                  have hown2 : W.ownsRow 0 90 5 v' (h2.ms.take i ++ h2.ms.drop (i + 1)).length (flat memC (h2.ms.take i ++ h2.ms.drop (i + 1))) := by rw [flat_append]; rw [show (h2.ms.take i ++ h2.ms.drop (i + 1)).length = i + (h2.ms.length - (i + 1)) by rw [List.length_append, List.length_take, List.length_drop]; omega]; exact hown'
                  obtain ⟨A11, c11, rfl⟩ := own_form hown2
                  obtain ⟨n11, hn11⟩ : ∃ n11, n11 = (h2.ms.take i ++ h2.ms.drop (i + 1)).length := ⟨_, rfl⟩
                  replace hs := hs.grown hgrow hown2 hat
                  rw [← hn11] at hs ⊢
                  have HN11 := Lib.hid hn11
                  clear hown' hown2 hgrow hat hn11
                  try clear hHeld
                  refine hK.out _ _ (by (try dsimp only); all_goals trivial) (fun hHeld => ?_)
                  clear hK K
                  try simp only [Act.put, List.getElem_toArray, List.getElem_cons_zero, List.getElem_cons_succ, List.setIfInBounds_toArray, List.set_cons_zero, List.set_cons_succ]
                  refine wpAnyH_take (i := 17) (oi := _) (v := ?_) rfl (by kernel_rfl) (by kernel_rfl) (by kernel_rfl) (fun _ _ _ h => h) (Or.inl ⟨by rfl, ?_⟩) (by assumption) ?_
                  rotate_left
                  · (intro w hSw; (try dsimp only at hSw); go_simp; try with_reducible rfl)
                  try simp only [Act.put, List.getElem_toArray, List.getElem_cons_zero, List.getElem_cons_succ, List.setIfInBounds_toArray, List.set_cons_zero, List.set_cons_succ]
                  refine wpAnyH_take (i := 18) (oi := _) (v := ?_) rfl (by kernel_rfl) (by kernel_rfl) (by kernel_rfl) (fun _ _ _ h => h) (Or.inl ⟨by rfl, ?_⟩) (by assumption) ?_
                  rotate_left
                  · (intro w hSw; (try dsimp only at hSw); go_simp; try with_reducible rfl)
                  try simp only [Act.put, List.getElem_toArray, List.getElem_cons_zero, List.getElem_cons_succ, List.setIfInBounds_toArray, List.set_cons_zero, List.set_cons_succ]
                  refine wpAnyH_ready (rs := [19]) (by kernel_rfl) (by simp) ?_
                  refine (AllReadyH.cons (o := _) rfl (fun K hK => ?_) AllReadyH.nil)
                  obtain ⟨hcQ, hfQ, hlQ⟩ := Blk.all (show Blk W p 71 _ from hs.at 4 rfl)
                  go_simp
                  replace hs := hs.set4 0 (.slice A11 n11 c11)
                  try clear hHeld
                  refine hK.out _ _ (by (try dsimp only); all_goals trivial) (fun hHeld => ?_)
                  clear hK K
                  try simp only [Act.put, List.getElem_toArray, List.getElem_cons_zero, List.getElem_cons_succ, List.setIfInBounds_toArray, List.set_cons_zero, List.set_cons_succ]
                  clear hcQ hfQ hlQ
                  refine wpAnyH_done (by kernel_rfl) ?_ _
                  generalize World.setCell _ _ _ = W at hs ⊢
                  replace hs := hs.swap1.drop
                  have HS := Lib.hid hs
                  clear hs
                  go_wp2
                  go_returns
                  refine Ret.mk (.refl I) HS.out ⟨rfl, ⟨by rw [HE3.out]; rfl, _, _, _, by rw [HE3.out]; unfold houR; dsimp only; rw [← HN11.out]; rfl⟩⟩
                · skip
                  have hcQ : W.cell? ⟨p, 0, none⟩ = some (.slice (some ⟨g, 0, none⟩) h2.ms.length cc3) := by first | exact Blk.cell (hs.at 3 rfl) 0 | exact Blk.cell (hs.at 4 rfl) 0
                  go_simp
                  try clear hHeld
                  refine hK.out _ _ (by (try dsimp only); all_goals trivial) (fun hHeld => ?_)
                  clear hK K
                  try simp only [Act.put, List.getElem_toArray, List.getElem_cons_zero, List.getElem_cons_succ, List.setIfInBounds_toArray, List.set_cons_zero, List.set_cons_succ]
                  clear hcQ
                  refine wpAnyH_take (i := 7) (oi := _) (v := ?_) rfl (by kernel_rfl) (by kernel_rfl) (by kernel_rfl) (fun _ _ _ h => h) (Or.inl ⟨by rfl, ?_⟩) (by assumption) ?_
                  rotate_left
                  · (intro w hSw; (try dsimp only at hSw); go_simp; rw [if_pos (by omega)])
                  try simp only [Act.put, List.getElem_toArray, List.getElem_cons_zero, List.getElem_cons_succ, List.setIfInBounds_toArray, List.set_cons_zero, List.set_cons_succ]
                  refine wpAnyH_ready (rs := [1]) (by kernel_rfl) (by simp) ?_
                  refine (AllReadyH.cons (o := _) rfl (fun K hK => ?_) AllReadyH.nil)
                  go_simp
                  try clear hHeld
                  refine hK.out _ _ (by (try dsimp only); all_goals trivial) (fun hHeld => ?_)
                  clear hK K
                  try simp only [Act.put, List.getElem_toArray, List.getElem_cons_zero, List.getElem_cons_succ, List.setIfInBounds_toArray, List.set_cons_zero, List.set_cons_succ]
                  generalize hw : World.alloc W _ = W at hHeld ⊢
                  replace hs := hs.lit0S (s := 5) hw
                  clear hw
                  refine wpAnyH_ready (rs := [8]) (by kernel_rfl) (by simp) ?_
                  refine (AllReadyH.cons (o := _) rfl (fun K hK => ?_) AllReadyH.nil)
                  refine step_append_src _ (by rfl) _ _ 68 68 (by rfl) 0 90 i3 (.agg #[.int .i64 0, .string ⟨#[]⟩, .string ⟨#[]⟩, .int .i64 0, .int .i64 0]) 5 56 Try.underlying68 hi hz0 hz1 hz2 rfl _ 0 [] (by rfl) hs.head _ i _ (by rfl) (own_src (f := memC) (fun _ => rfl) mem_one (hs.at 1 rfl) Try.underlying68 0 i _ (by omega) (by omega)) (by unfold maxLen; omega) (by omega) (Nat.zero_le _) ?_
                  intro v' W hown' hgrow hat
                  have hown2 : W.ownsRow 0 90 5 v' i (flat memC (h2.ms.take i)) := by simpa using hown'
                  obtain ⟨A10, c10, rfl⟩ := own_form hown2
                  replace hs := hs.grown hgrow hown2 hat
                  clear hown' hown2 hgrow hat
                  try clear hHeld
                  refine hK.out _ _ (by (try dsimp only); all_goals trivial) (fun hHeld => ?_)
                  clear hK K
                  try simp only [Act.put, List.getElem_toArray, List.getElem_cons_zero, List.getElem_cons_succ, List.setIfInBounds_toArray, List.set_cons_zero, List.set_cons_succ]
                  refine wpAnyH_ready (rs := [16]) (by kernel_rfl) (by simp) ?_
                  refine (AllReadyH.cons (o := _) rfl (fun K hK => ?_) AllReadyH.nil)
                  refine step_append_src _ (by rfl) _ _ 68 68 (by rfl) 0 90 i3 (.agg #[.int .i64 0, .string ⟨#[]⟩, .string ⟨#[]⟩, .int .i64 0, .int .i64 0]) 5 56 Try.underlying68 hi hz0 hz1 hz2 rfl _ i (flat memC (h2.ms.take i)) (by rfl) hs.head _ (h2.ms.length - (i + 1)) _ (by rfl) (own_src2 (f := memC) (fun _ => rfl) mem_one (hs.at 1 rfl) Try.underlying68 (i + 1) _ (by omega) HA3.out) (by unfold maxLen; omega) (by omega) (Nat.zero_le _) ?_
                  intro v' W hown' hgrow hat
                  have hown2 : W.ownsRow 0 90 5 v' (h2.ms.take i ++ h2.ms.drop (i + 1)).length (flat memC (h2.ms.take i ++ h2.ms.drop (i + 1))) := by rw [flat_append]; rw [show (h2.ms.take i ++ h2.ms.drop (i + 1)).length = i + (h2.ms.length - (i + 1)) by rw [List.length_append, List.length_take, List.length_drop]; omega]; exact hown'
                  obtain ⟨A11, c11, rfl⟩ := own_form hown2
                  obtain ⟨n11, hn11⟩ : ∃ n11, n11 = (h2.ms.take i ++ h2.ms.drop (i + 1)).length := ⟨_, rfl⟩
                  replace hs := hs.grown hgrow hown2 hat
                  rw [← hn11] at hs ⊢
                  have HN11 := Lib.hid hn11
                  clear hown' hown2 hgrow hat hn11
                  try clear hHeld
                  refine hK.out _ _ (by (try dsimp only); all_goals trivial) (fun hHeld => ?_)
                  clear hK K
                  try simp only [Act.put, List.getElem_toArray, List.getElem_cons_zero, List.getElem_cons_succ, List.setIfInBounds_toArray, List.set_cons_zero, List.set_cons_succ]
                  refine wpAnyH_take (i := 17) (oi := _) (v := ?_) rfl (by kernel_rfl) (by kernel_rfl) (by kernel_rfl) (fun _ _ _ h => h) (Or.inl ⟨by rfl, ?_⟩) (by assumption) ?_
                  rotate_left
                  · (intro w hSw; (try dsimp only at hSw); go_simp; try with_reducible rfl)
                  try simp only [Act.put, List.getElem_toArray, List.getElem_cons_zero, List.getElem_cons_succ, List.setIfInBounds_toArray, List.set_cons_zero, List.set_cons_succ]
                  refine wpAnyH_take (i := 18) (oi := _) (v := ?_) rfl (by kernel_rfl) (by kernel_rfl) (by kernel_rfl) (fun _ _ _ h => h) (Or.inl ⟨by rfl, ?_⟩) (by assumption) ?_
                  rotate_left
                  · (intro w hSw; (try dsimp only at hSw); go_simp; try with_reducible rfl)
                  try simp only [Act.put, List.getElem_toArray, List.getElem_cons_zero, List.getElem_cons_succ, List.setIfInBounds_toArray, List.set_cons_zero, List.set_cons_succ]
                  refine wpAnyH_ready (rs := [19]) (by kernel_rfl) (by simp) ?_
                  refine (AllReadyH.cons (o := _) rfl (fun K hK => ?_) AllReadyH.nil)
                  obtain ⟨hcQ, hfQ, hlQ⟩ := Blk.all (show Blk W p 71 _ from hs.at 4 rfl)
                  go_simp
                  replace hs := hs.set4 0 (.slice A11 n11 c11)
                  try clear hHeld
                  refine hK.out _ _ (by (try dsimp only); all_goals trivial) (fun hHeld => ?_)
                  clear hK K
                  try simp only [Act.put, List.getElem_toArray, List.getElem_cons_zero, List.getElem_cons_succ, List.setIfInBounds_toArray, List.set_cons_zero, List.set_cons_succ]
                  clear hcQ hfQ hlQ
                  refine wpAnyH_done (by kernel_rfl) ?_ _
                  generalize World.setCell _ _ _ = W at hs ⊢
                  replace hs := hs.swap1.drop
                  have HS := Lib.hid hs
                  clear hs
                  go_wp2
                  go_returns
                  refine Ret.mk (.refl I) HS.out ⟨rfl, ⟨by rw [HE3.out]; rfl, _, _, _, by rw [HE3.out]; unfold houR; dsimp only; rw [← HN11.out]; rfl⟩⟩

end Go.Proofs.Ytbaobonlolbnpaa
