/- RtcpKeeps: an answer is the caller's own. -/
import Derived.Test.YtddopbbmgpnjjaaRrQ
namespace Go.Proofs.Ytddopbbmgpnjjaa
open Go.RowKit
set_option linter.unusedSimpArgs false

theorem St.own {I J : Img} {M : List Res} {w : World} {g t : Nat} {cs : Array Value} (h : St J M w) (hl : I.le J) (ho : J.obj g = some (.cells cs t (0, 0))) (hn : I.obj g = none) (hm : ∀ r ∈ M, r.blk ≠ some g) : St I (bk g t cs :: M) w := by
  have h2 := h.less hl
  refine ⟨h2.os, h2.tape, h2.output, h2.img, fun r hr => ?_, List.pairwise_cons.2 ⟨fun r hr => ?_, h2.apart⟩, fun r hr b hb => ?_⟩
  · rcases List.mem_cons.1 hr with rfl | hr
    · exact h.img _ _ ho
    · exact h2.res r hr
  · intro b h3 h4
    have h5 : b = g := by
      have : (some g : Option Nat) = some b := h3
      injection this with this
      exact this.symm
    subst h5
    exact hm r hr h4
  · rcases List.mem_cons.1 hr with rfl | hr
    · have h5 : b = g := by
        have : (some g : Option Nat) = some b := hb
        injection this with this
        exact this.symm
      rw [h5]
      exact hn
    · exact h2.away r hr b hb
theorem Byts.front {I : Img} {A : Option Addr} {a b : List UInt8} (h : Byts I A (a ++ b)) : Byts I A a := by
  intro h0
  rw [bvs_len] at h0
  obtain ⟨g, o, e, hc⟩ := h (by rw [bvs_len, List.length_append]; omega)
  refine ⟨g, o, e, fun j hj => ?_⟩
  rw [bvs_len] at hj
  rw [hc j (by rw [bvs_len, List.length_append]; omega)]
  simp only [bvs, List.getElem_map]
  rw [List.getElem_append_left hj]
/-- what holds of the numbers' blocks while the answer is written upon -/
def SeqsW (I : Img) (M : List Res) (gl : Nat) (qs : List (Pk × Vs)) (w : World) : Prop :=
  ∀ x ∈ qs, x.1.seqs = [] ∨ ∃ g c cs, x.2.q = .slice (some ⟨g, 0, none⟩) x.1.seqs.length c ∧ w.heap[g]? = some (.cells cs 42 (0, 0)) ∧ (∀ j, j < x.1.seqs.length → ∃ y, cs[j]? = some (.int .u16 y)) ∧ I.obj g = none ∧ g ≠ gl ∧ ∀ r ∈ M, r.blk ≠ some g
/-- of the answer's own block -/
def ListW (qs : List (Pk × Vs)) (cs : Array Value) : Prop := ∀ i (h : i < qs.length), cs[i * 16 + 10]? = some qs[i].2.q ∧ ∃ s, cs[i * 16 + 1]? = some (.int .u32 s)
/-- while it is written upon -/
def KeepI (I : Img) (M : List Res) (gl : Nat) (qs : List (Pk × Vs)) (w : World) : Prop := ∃ cs, St I (bk gl 51 cs :: M) w ∧ ListW qs cs ∧ SeqsW I M gl qs w
theorem KeepI.start {I J : Img} {M : List Res} {w : World} {B : Option Addr} {qs : List (Pk × Vs)} (hs : St J M w) (hl : I.le J) (hp : Pks J B qs) (hb : NewG I M J 51 B) (hq : ∀ x ∈ qs, x.1.seqs = [] ∨ SeqNew I M J x.2.q) (h0 : 0 < qs.length) : ∃ gl, B = some ⟨gl, 0, none⟩ ∧ KeepI I M gl qs w := by
  obtain ⟨gl, cs, rfl, ho, hn, hm⟩ := hb
  refine ⟨gl, rfl, cs, hs.own hl ho hn hm, fun i hi => ?_, fun x hx => ?_⟩
  · obtain ⟨g', o', e, hc⟩ := flat_get (s := 16) (fun _ => rfl) hp.cells h0 (by decide)
    injection e with e
    injection e with e1 e2
    subst e1 e2
    have hblk : Blk w gl 51 cs := hs.img _ _ ho
    have h1 := hc _ _ hs i hi 10 (by decide)
    have h2 := hc _ _ hs i hi 1 (by decide)
    rw [Nat.zero_add, hblk.cell] at h1 h2
    exact ⟨h1, _, h2⟩
  · rcases hq x hx with h | ⟨g, n, c, cs2, e, h1, h2, h3⟩
    · exact .inl h
    · refine .inr ?_
      obtain ⟨hin, _⟩ := hp.each x hx
      obtain ⟨qA, qz, e2, cq, _⟩ := hin.q
      have e3 := e.symm.trans e2
      injection e3 with e4 e5 e6
      subst e5
      refine ⟨g, c, cs2, e, hs.img _ _ h1, fun j hj => ?_, h2, fun e7 => ?_, h3⟩
      · rw [← e4] at cq
        obtain ⟨g', o', e8, hc⟩ := cq.at (by rw [flat_len (s := 1) (fun _ => rfl)]; omega)
        injection e8 with e8
        injection e8 with e9 e10
        subst e9 e10
        have h9 := hc _ _ hs j (by rw [flat_len (s := 1) (fun _ => rfl)]; omega)
        have hblk : Blk w g 42 cs2 := hs.img _ _ h1
        rw [Nat.zero_add, hblk.cell] at h9
        have h10 := flat_at (f := u16C) (fun _ => rfl) x.1.seqs j 0 hj (by decide)
        exact ⟨x.1.seqs[j], h9.trans (by rw [← List.getElem?_eq_getElem]; simpa using h10)⟩
      · subst e7
        rw [ho] at h1
        injection h1 with h1
        injection h1 with _ h1 _
        cases h1
theorem heap_set {w : World} {g k : Nat} {v : Value} {t : Nat} {cs : Array Value} (h : w.heap[g]? = some (.cells cs t (0, 0))) (b : Nat) : (w.setCell ⟨g, k, none⟩ v).heap[b]? = if b = g then some (.cells (cs.setIfInBounds k v) t (0, 0)) else w.heap[b]? := by
  unfold World.setCell
  simp only [Array.getElem?_modify]
  by_cases hb : g = b
  · subst hb
    simp [h]
  · rw [if_neg hb, if_neg (fun e => hb e.symm)]
theorem KeepI.sender {I : Img} {M : List Res} {w : World} {gl : Nat} {qs : List (Pk × Vs)} (h : KeepI I M gl qs w) (i : Nat) (s : Int) : KeepI I M gl qs (w.setCell ⟨gl, i * 16 + 1, none⟩ (.int .u32 s)) := by
  obtain ⟨cs, hs, hl, hq⟩ := h
  have hblk : w.heap[gl]? = some (.cells cs 51 (0, 0)) := hs.head
  refine ⟨_, hs.set (i * 16 + 1) (.int .u32 s), fun j hj => ?_, fun x hx => ?_⟩
  · obtain ⟨h1, s2, h2⟩ := hl j hj
    refine ⟨?_, ?_⟩
    · rw [Array.getElem?_setIfInBounds_ne (by omega)]
      exact h1
    · by_cases hij : j = i
      · subst hij
        refine ⟨s, ?_⟩
        rw [Array.getElem?_setIfInBounds_self, if_pos (by
          have := (Array.getElem?_eq_some_iff.1 h2).1
          omega)]
      · refine ⟨s2, ?_⟩
        rw [Array.getElem?_setIfInBounds_ne (by omega)]
        exact h2
  · rcases hq x hx with h | ⟨g, c, cs2, e, h1, h2, h3, h4, h5⟩
    · exact .inl h
    · refine .inr ⟨g, c, cs2, e, ?_, h2, h3, h4, h5⟩
      rw [heap_set hblk, if_neg h4]
      exact h1
theorem KeepI.number {I : Img} {M : List Res} {w : World} {gl g : Nat} {qs : List (Pk × Vs)} (h : KeepI I M gl qs w) {cs2 : Array Value} (hg : w.heap[g]? = some (.cells cs2 42 (0, 0))) (hn : I.obj g = none) (hne : g ≠ gl) (hm : ∀ r ∈ M, r.blk ≠ some g) (k : Nat) (y : Int) : KeepI I M gl qs (w.setCell ⟨g, k, none⟩ (.int .u16 y)) := by
  obtain ⟨cs, hs, hl, hq⟩ := h
  have hs2 : St I (bk g 42 cs2 :: bk gl 51 cs :: M) w := by
    refine ⟨hs.os, hs.tape, hs.output, hs.img, fun r hr => ?_, List.pairwise_cons.2 ⟨fun r hr => ?_, hs.apart⟩, fun r hr b hb => ?_⟩
    · rcases List.mem_cons.1 hr with rfl | hr
      · exact hg
      · exact hs.res r hr
    · intro b h3 h4
      have h5 : b = g := by
        have : (some g : Option Nat) = some b := h3
        injection this with this
        exact this.symm
      subst h5
      rcases List.mem_cons.1 hr with rfl | hr
      · have : (some gl : Option Nat) = some b := h4
        injection this with this
        exact hne this.symm
      · exact hm r hr h4
    · rcases List.mem_cons.1 hr with rfl | hr
      · have h5 : b = g := by
          have : (some g : Option Nat) = some b := hb
          injection this with this
          exact this.symm
        rw [h5]
        exact hn
      · exact hs.away r hr b hb
  refine ⟨cs, (hs2.set k (.int .u16 y)).drop, hl, fun x hx => ?_⟩
  rcases hq x hx with h | ⟨g', c, cs3, e, h1, h2, h3, h4, h5⟩
  · exact .inl h
  · by_cases hgg : g' = g
    · subst hgg
      rw [hg] at h1
      injection h1 with h1
      injection h1 with h1 _ _
      subst h1
      refine .inr ⟨g', c, cs2.setIfInBounds k (.int .u16 y), e, by rw [heap_set hg, if_pos rfl], fun j hj => ?_, h3, h4, h5⟩
      obtain ⟨z, hz⟩ := h2 j hj
      by_cases hjk : k = j
      · subst hjk
        refine ⟨y, ?_⟩
        rw [Array.getElem?_setIfInBounds_self, if_pos (Array.getElem?_eq_some_iff.1 hz).1]
      · refine ⟨z, ?_⟩
        rw [Array.getElem?_setIfInBounds_ne hjk]
        exact hz
    · refine .inr ⟨g', c, cs3, e, ?_, h2, h3, h4, h5⟩
      rw [heap_set hg, if_neg hgg]
      exact h1
set_option maxRecDepth 100000 in
set_option maxHeartbeats 40000000 in
theorem law8 (I : Img) (M : List Res) (w : World) (A : Option Addr) (z : Nat) (ps : List (Pk × Vs)) (hp : Pks I A ps) (hlen : ps.length * 192 ≤ 140737488351232) (hst : St I M w) :
    Calls Try.prog 8 #[.slice A ps.length z] w (Yes I M) := by
  have HP := Lib.hid (And.intro hp hlen)
  have HA := Lib.hid (awakeC I M w hst)
  clear hp hlen hst
  go_enter Try.func8, Try.ntmps8
  go_wp2_with fail
  go_at_call 9
  refine HA.out.mono ?_
  clear HA
  rintro e w1 ⟨J1, rfl, hle1, hs1⟩
  have HC := Lib.hid (theirsC J1 M w1 A z ps (HP.out.1.mono hle1) HP.out.2 hs1)
  have HLE := Lib.hid hle1
  clear hle1 hs1
  go_wp2_with fail
  go_at_call 12
  refine HC.out.mono ?_
  clear HC
  rintro e w2 ⟨J2, C, cc, qs, rfl, hle2, hs2, hq, hqe⟩
  have hql : qs.length = ps.length := by have := congrArg List.length hqe; simpa [pks] using this
  have HC := buildC J2 M w2 C cc qs hq hs2
  rw [hql] at HC
  have HC := Lib.hid HC
  have HLE := Lib.hid (HLE.out.trans hle2)
  have HQ := Lib.hid (And.intro hq (And.intro hqe hql))
  clear hle2 hs2 hq hqe hql
  go_wp2_with fail
  go_at_call 11
  refine HC.out.mono ?_
  clear HC
  rintro e w3 ⟨_, J3, M3, rfl, hle3, hs3, hbt⟩
  rcases hbt with ⟨hbt, u, rfl, rfl⟩ | ⟨hbt, rfl, hM3⟩
  · skip
    obtain ⟨U, uc, rfl⟩ := own_form (show World.ownsRow _ 0 5 1 u _ _ from hs3.at 0 rfl)
    obtain ⟨J4, hle4, hs4, hby⟩ := hs3.freezeRow
    have hby : Byts J4 U ((pks qs).flatMap packB) := hby
    have HBT := Lib.hid hbt
    have HTL := Lib.hid (tl_of HQ.out.1 hbt)
    have hob := hbt.2.2.2
    obtain ⟨ob, hobe⟩ : ∃ z, z = (pks qs).flatMap packB := ⟨_, rfl⟩
    rw [← hobe] at hby HTL hob ⊢
    have HBY := Lib.hid hby
    have HOB := Lib.hid hob
    have HLQ := Lib.hid (hle3.trans hle4)
    have HLE := Lib.hid (HLE.out.trans HLQ.out)
    have HS := Lib.hid hs4
    clear hs3 hle3 hle4 hs4 hby hbt hobe hob
    have HC := oursC _ M w3 C cc qs (HQ.out.1.mono HLQ.out) (by rw [HQ.out.2.2]; exact HP.out.2) HS.out
    rw [HQ.out.2.2] at HC
    have HC := Lib.hid HC
    clear HS
    go_wp2_with fail
    go_at_call 16
    refine HC.out.mono ?_
    clear HC
    rintro e w6 ⟨J6, E, ec, os, rfl, hle6, hs6, ho, hoe⟩
    have HLE := Lib.hid (HLE.out.trans hle6)
    have HC := sameC J6 M w6 E A ec z os ps ho (HP.out.1.mono HLE.out) hs6
    rw [show os.length = ps.length by have := congrArg List.length (hoe.trans HQ.out.2.1); simpa [pks] using this] at HC
    have HC := Lib.hid HC
    have HEQ := Lib.hid (show pks os = pks ps from hoe.trans HQ.out.2.1)
    have HL6 := Lib.hid hle6
    clear hs6 hle6 ho hoe
    go_wp2_with fail
    go_at_call 15
    refine HC.out.mono ?_
    clear HC
    rintro e w7 ⟨_, J7, M7, rfl, hle7, hs7, hJ7, ⟨t, rfl, ht⟩, hM7⟩
    obtain rfl : t = true := ht.2 HEQ.out
    rw [hM7] at hs7
    have HLE := Lib.hid (HLE.out.trans hle7)
    have HL7 := Lib.hid (HL6.out.trans hle7)
    have HS := Lib.hid hs7
    clear hs7 hle7 hJ7 hM7 ht HEQ HL6
    have HBY := Lib.hid (HBY.out.mono HL7.out)
    have hr0 : St J7 (row 5 1 (.slice (some ⟨w7.heap.size, 0, none⟩) 0 0) ([] : List UInt8).length (bvs []) :: M) (w7.alloc (.cells #[] 5)) := (HS.out.alloc 5 #[]).bkRow (n := 0) (c := 0) (s := 1) (Nat.le_refl _) (Nat.zero_le _) rfl rfl
    have HR0 := Lib.hid hr0
    clear HS hr0
    go_upto_region 9 with fail
    go_wp2_with (at_builtin; refine wpList_appB rfl (.tmp 29) (.tmp 30) rfl J7 M _ _ [] ob rfl rfl HR0.out ⟨U, uc, rfl, HBY.out⟩ (by have := HOB.out; simp only [List.length_nil]; omega) ?_)
    intro v5 w8 hs8
    clear HR0
    have hs8 : St J7 (row 5 1 v5 ob.length (bvs ob) :: M) w8 := hs8
    obtain ⟨J8, hle8, hs9, hobj⟩ := (hs8.alloc 5 #[.int .u8 77]).freezeBlk
    have h77 : RoB [77] (.slice (some ⟨w8.heap.size, 0, none⟩) 1 1) J8 := ⟨_, 1, rfl, Cells.ofBlk hobj⟩
    have HR9 := Lib.hid (And.intro hs9 h77)
    have HLE := Lib.hid (HLE.out.trans hle8)
    clear hs8 hs9 h77 hle8 hobj
    go_wp2_with (at_builtin; refine wpList_appB rfl (.tmp 31) (.tmp 32) rfl J8 M _ _ ob [77] rfl rfl HR9.out.1 HR9.out.2 (by have := HOB.out; simp only [List.length_cons, List.length_nil]; omega) ?_)
    intro v6 w9 hs10
    clear HR9
    have hs10 : St J8 (row 5 1 v6 (ob ++ [77]).length (bvs (ob ++ [77])) :: M) w9 := hs10
    obtain ⟨X, xc, rfl⟩ := own_form (show World.ownsRow _ 0 5 1 v6 _ _ from hs10.at 0 rfl)
    have hrow : World.ownsRow w9 0 5 1 (.slice X (ob ++ [(77 : UInt8)]).length xc) (ob ++ [(77 : UInt8)]).length (bvs (ob ++ [(77 : UInt8)])) := hs10.at 0 rfl
    have hcap := (own_cap hrow).2
    clear hrow
    obtain ⟨J9, hle9, hs11, hbx⟩ := hs10.freezeRow
    have hbx : Byts J9 X (ob ++ [77]) := hbx
    have HBX := Lib.hid hbx
    have HLE := Lib.hid (HLE.out.trans hle9)
    have HC := Lib.hid (parseC J9 M w9 X xc ob hbx.front (by have := HOB.out; omega) hs11)
    have HOL := Lib.hid (show ob.length ≤ 1500 from HOB.out)
    rw [List.length_append, List.length_singleton] at hcap
    obtain ⟨gx, ox, hX, hat⟩ := hbx.at (by rw [List.length_append]; simp)
    subst hX
    have HAT := Lib.hid (fun (M' : List Res) (w' : World) (h : St J9 M' w') => (show w'.cell? ⟨gx, ox + ob.length, none⟩ = some (.int .u8 77) from by
      have h1 := hat M' w' h ob.length (by rw [List.length_append]; simp)
      simpa using h1))
    rw [List.length_append, List.length_singleton]
    obtain ⟨nb, hnb⟩ : ∃ z, z = ob.length := ⟨_, rfl⟩
    rw [← hnb] at HC hcap HAT ⊢
    have HNB := Lib.hid hnb
    have hnb15 : nb ≤ 1500 := by have := HOL.out; omega
    have hcap2 : nb ≤ xc := by omega
    clear hs10 hs11 hbx hle9 hat hnb
    go_wp2_with fail
    go_at_call 14
    refine HC.out.mono ?_
    clear HC
    rintro e w10 ⟨J10, hle10, hs12, h10⟩
    rcases h10 with ⟨_, hn⟩ | ⟨D, dc, gs, rfl, hgs, _, hbt10, hby10, hnw, hsq, huni⟩
    case inl => exact absurd HTL.out (hn _)
    obtain ⟨gl, rfl, hk⟩ := KeepI.start hs12 hle10 hgs hnw hsq (by have := hbt10.1.1; rw [List.length_map] at this; omega)
    have HK := Lib.hid hk
    have HIN := Lib.hid (fun x hx => And.intro (hgs.each x hx).1.q (hgs.each x hx).2.lq)
    obtain ⟨n, hn⟩ : ∃ z, z = gs.length := ⟨_, rfl⟩
    have hn8 : n ≤ 8 := by have := hbt10.1.2; rw [hn]; simpa [pks] using this
    rw [← hn]
    have HN := Lib.hid hn
    clear hs12 hle10 hgs hnw hsq huni hbt10 hby10 hn hk
    go_upto_region 12 with fail
    go_loopw [44] (fun iv wr => ∃ i : Nat, iv = .int .i64 i ∧ i ≤ n ∧ Hid (KeepI J9 M gl gs wr)) (fun iv _ => n - (intOf iv).toNat)
    case atStart => exact ⟨0, rfl, by omega, HK⟩
    case round =>
      obtain ⟨i, rfl, hi, hh⟩ := hrel
      clear HK
      by_cases hlt : i < n
      · skip
        have hgi : i < gs.length := by have := HN.out; omega
        have hqs := HIN.out _ (List.getElem_mem hgi)
        have HX := Lib.hid (List.getElem_mem hgi)
        have HLC := Lib.hid (fun (cs : Array Value) (hl : ListW gs cs) => hl i hgi)
        generalize gs[i] = x at hqs HX HLC
        obtain ⟨px, ⟨vr, vs, vq, va, vw⟩⟩ := x
        dsimp only at hqs HLC HX
        obtain ⟨⟨qA, qz, rfl, _, _⟩, hmm⟩ := hqs
        obtain ⟨m, hm⟩ : ∃ z, z = px.seqs.length := ⟨_, rfl⟩
        rw [← hm] at hmm
        rw [← hm] at HLC HX
        have HM := Lib.hid hm
        have hli : (i : Int) < (n : Int) := by omega
        have hcl : wr.cell? ⟨gl, i * 16 + 10, none⟩ = some (.slice qA m qz) := by
          obtain ⟨cs, hs, hl, hq⟩ := hh.out
          have hblk : Blk wr gl 51 cs := hs.head
          rw [hblk.cell]
          exact (HLC.out cs hl).1
        clear hm hgi
        go_upto_region 15 with fail
        clear hcl
        have HK := hh
        clear hh
        go_loopw [53] (fun kv wr' => ∃ k : Nat, kv = .int .i64 k ∧ k ≤ m ∧ Hid (KeepI J9 M gl gs wr')) (fun kv _ => m - (intOf kv).toNat)
        case atStart => exact ⟨0, rfl, by omega, HK⟩
        case round =>
          obtain ⟨k, rfl, hk, hh⟩ := hrel
          clear HK
          by_cases hlk : k < m
          · skip
            obtain ⟨cs, hs, hl, hq⟩ := hh.out
            have hblk : Blk wr gl 51 cs := hs.head
            have hcl : wr.cell? ⟨gl, i * 16 + 10, none⟩ = some (.slice qA m qz) := by rw [hblk.cell]; exact (HLC.out cs hl).1
            rcases hq _ HX.out with h0 | ⟨g, c, cs2, e, hg, hnum, hno, hne, haw⟩
            · have := HM.out
              dsimp only at h0
              rw [h0] at this
              simp at this
              omega
            dsimp only at e hnum
            injection e with e1 e2 e3
            subst e1
            obtain ⟨y, hy⟩ := hnum k (by have := HM.out; omega)
            have hblk2 : Blk wr g 42 cs2 := hg
            have hyc : wr.cell? ⟨g, k, none⟩ = some (.int .u16 y) := by rw [hblk2.cell]; exact hy
            have hyf := hblk2.frozen k
            have hyl := hblk2.lt
            have hlki : (k : Int) < (m : Int) := by omega
            have HK2 := Lib.hid (fun v => hh.out.number hg hno hne haw k v)
            clear hs hl hq hblk hblk2 hg hno hne haw hnum hy hh
            go_upto_region 18 with fail
            clear hcl hyc hyf hyl
            go_wp2
            go_roundw
            case rel => exact ⟨k + 1, by go_num, by omega, Lib.hid (HK2.out _)⟩
            case measure => simp [intOf]; omega
          · have hke : k = m := by omega
            obtain ⟨cs, hs, hl, hq⟩ := hh.out
            have hblk : Blk wr gl 51 cs := hs.head
            obtain ⟨s, hsn⟩ := (HLC.out cs hl).2
            have hcl : wr.cell? ⟨gl, i * 16 + 1, none⟩ = some (.int .u32 s) := by rw [hblk.cell]; exact hsn
            have hcf := hblk.frozen (i * 16 + 1)
            have hlt2 := hblk.lt
            have HK2 := Lib.hid (fun v => hh.out.sender i v)
            have HKE := Lib.hid hke
            clear hs hl hq hblk hsn hh hke
            go_upto_region 20 with fail
            clear hcl hcf hlt2
            go_wp2
            go_roundw
            case rel => exact ⟨i + 1, by go_num, by omega, Lib.hid (HK2.out _)⟩
            case measure => simp [intOf]; omega
      · have hin : i = n := by omega
        obtain ⟨cs, hs, _, _⟩ := hh.out
        have HC := Lib.hid (parseC J9 M wr (some ⟨gx, ox, none⟩) xc ob HBX.out.front (by have := HOL.out; omega) hs.drop)
        rw [← HNB.out] at HC
        have HII := Lib.hid hin
        clear hs hh hin
        go_wp2_with fail
        go_at_call 14
        refine HC.out.mono ?_
        clear HC
        rintro e w12 ⟨J12, hle12, hs12, h12⟩
        rcases h12 with ⟨_, hn⟩ | ⟨D, dc, hs9, rfl, hgs, _, hbt12, hby12, _, _, huni⟩
        case inl => exact absurd HTL.out (hn _)
        have hge := huni _ HTL.out
        have HLE := Lib.hid (HLE.out.trans hle12)
        have HL9 := Lib.hid hle12
        have HC := Lib.hid (oursC J12 M w12 D dc hs9 hgs (built_len hbt12) hs12)
        have HGE := Lib.hid hge
        clear hs12 hle12 hgs hbt12 hby12 huni hge
        go_wp2_with fail
        go_at_call 16
        refine HC.out.mono ?_
        clear HC
        rintro e w13 ⟨J13, E2, ec2, os2, rfl, hle13, hs13, ho13, hoe13⟩
        have HLE := Lib.hid (HLE.out.trans hle13)
        have HL9 := Lib.hid (HL9.out.trans hle13)
        have HC := sameC J13 M w13 E2 A ec2 z os2 ps ho13 (HP.out.1.mono HLE.out) hs13
        rw [show os2.length = hs9.length by have := congrArg List.length hoe13; simpa [pks] using this] at HC
        have HC := Lib.hid HC
        have HEQ := Lib.hid (show pks os2 = pks ps from (hoe13.trans HGE.out.symm).trans HQ.out.2.1)
        clear hs13 hle13 ho13 hoe13
        go_wp2_with fail
        go_at_call 15
        refine HC.out.mono ?_
        clear HC
        rintro e w14 ⟨_, J14, M14, rfl, hle14, hs14, hJ14, ⟨t2, rfl, ht2⟩, hM14⟩
        obtain rfl : t2 = true := ht2.2 HEQ.out
        rw [hM14] at hs14
        have hcx := HAT.out _ _ (hs14.less (HL9.out.trans hle14))
        have HF := Lib.hid (show Yes I M (.returned (.bool true)) w14 from Ret.mk (HLE.out.trans hle14) hs14 ⟨rfl, rfl⟩)
        clear hs14 hle14 hJ14 hM14 ht2
        go_wp2
        go_returns
        exact HF.out
  · skip
    rw [hM3] at hs3
    have HLQ := Lib.hid hle3
    have HLE := Lib.hid (HLE.out.trans hle3)
    have HS := Lib.hid hs3
    clear hs3 hle3 hbt hM3
    have HC := oursC _ M w3 C cc qs (HQ.out.1.mono HLQ.out) (by rw [HQ.out.2.2]; exact HP.out.2) HS.out
    rw [HQ.out.2.2] at HC
    have HC := Lib.hid HC
    clear HS
    go_wp2_with fail
    go_at_call 16
    refine HC.out.mono ?_
    clear HC
    rintro e w6 ⟨J6, E, ec, os, rfl, hle6, hs6, ho, hoe⟩
    have HLE := Lib.hid (HLE.out.trans hle6)
    have HC := sameC J6 M w6 E A ec z os ps ho (HP.out.1.mono HLE.out) hs6
    rw [show os.length = ps.length by have := congrArg List.length (hoe.trans HQ.out.2.1); simpa [pks] using this] at HC
    have HC := Lib.hid HC
    have HEQ := Lib.hid (show pks os = pks ps from hoe.trans HQ.out.2.1)
    have HL6 := Lib.hid hle6
    clear hs6 hle6 ho hoe
    go_wp2_with fail
    go_at_call 15
    refine HC.out.mono ?_
    clear HC
    rintro e w7 ⟨_, J7, M7, rfl, hle7, hs7, hJ7, ⟨t, rfl, ht⟩, hM7⟩
    obtain rfl : t = true := ht.2 HEQ.out
    rw [hM7] at hs7
    have HLE := Lib.hid (HLE.out.trans hle7)
    have HL7 := Lib.hid (HL6.out.trans hle7)
    have HS := Lib.hid hs7
    clear hs7 hle7 hJ7 hM7 ht HEQ HL6
    have HF := Lib.hid (show Yes I M (.returned (.bool true)) w7 from Ret.mk HLE.out HS.out ⟨rfl, rfl⟩)
    go_wp2
    go_returns
    exact HF.out
end Go.Proofs.Ytddopbbmgpnjjaa
