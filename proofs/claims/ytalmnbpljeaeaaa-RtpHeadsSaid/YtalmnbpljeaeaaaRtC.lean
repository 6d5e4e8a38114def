/- rostrumlaw12.theirs. -/
import Derived.Test.YtalmnbpljeaeaaaRtB
namespace Go.Proofs.Ytalmnbpljeaeaaa
open Go.RowKit
set_option linter.unusedSimpArgs false

/-- a packet: its plain fields -/
structure Pf where
  marker : Bool
  typ : Int
  seq : Int
  time : Int
  source : Int
  pad : Int
abbrev pfC (p : Pf) (cv ev pv : Value) : Array Value := #[.bool p.marker, .int .i64 p.typ, .int .u16 p.seq, .int .u32 p.time, .int .u32 p.source, cv, ev, pv, .int .i64 p.pad]
/-- an extension -/
structure XD where
  id : Int
  A : Option Addr
  c : Nat
  d : List UInt8
abbrev xC (x : XD) : List Value := [.int .i64 x.id, .slice x.A x.d.length x.c]
def xsC : List XD → List Value
  | [] => []
  | x :: r => xC x ++ xsC r
def Exts (I : Img) (A : Option Addr) (xs : List XD) : Prop := Cells I A (xsC xs) ∧ ∀ x ∈ xs, Byts I x.A x.d ∧ x.d.length ≤ 140737488351232
def u32s (l : List Int) : List Value := l.map (Value.int .u32)
abbrev zC : Array Value := #[.bool false, .int .i64 0, .int .u16 0, .int .u32 0, .int .u32 0, .slice none 0 0, .slice none 0 0, .slice none 0 0, .int .i64 0]
theorem u32s_len (l : List Int) : (u32s l).length = l.length := by simp [u32s]
theorem u32s_one (l : List Int) : ∀ u ∈ u32s l, u.oneCell' = true := by
  intro u hu
  obtain ⟨c, _, rfl⟩ := List.mem_map.1 hu
  rfl
theorem xsC_append (a b : List XD) : xsC (a ++ b) = xsC a ++ xsC b := by
  induction a with
  | nil => rfl
  | cons x r ih => simp only [List.cons_append, xsC, ih, List.append_assoc]
theorem xsC_len (a : List XD) : (xsC a).length = a.length * 2 := by
  induction a with
  | nil => rfl
  | cons x r ih => simp only [xsC, List.length_append, List.length_cons, List.length_nil, ih]; omega
theorem xsC_at (a : List XD) : ∀ (i : Nat) (h : i < a.length), (xsC a)[i * 2]? = some (.int .i64 a[i].id) ∧ (xsC a)[i * 2 + 1]? = some (.slice a[i].A a[i].d.length a[i].c) := by
  induction a with
  | nil => intro i h; cases h
  | cons x r ih =>
    intro i h
    match i, h with
    | 0, _ => exact ⟨rfl, rfl⟩
    | i + 1, h =>
      have := ih i (by simpa using h)
      have e1 : (i + 1) * 2 = i * 2 + 1 + 1 := by omega
      rw [e1]
      simp only [xsC, xC, List.cons_append, List.nil_append, List.getElem?_cons_succ, List.getElem_cons_succ]
      exact this
theorem Exts.at {I : Img} {A : Option Addr} {xs : List XD} (h : Exts I A xs) (h0 : 0 < xs.length) : ∃ g o, A = some ⟨g, o, none⟩ ∧ ∀ (M : List Res) (w : World), St I M w → ∀ i (h : i < xs.length), w.cell? ⟨g, o + i * 2, none⟩ = some (.int .i64 xs[i].id) ∧ w.cell? ⟨g, o + i * 2 + 1, none⟩ = some (.slice xs[i].A xs[i].d.length xs[i].c) := by
  obtain ⟨g, o, e, hc⟩ := Cells.at h.1 (by rw [xsC_len]; omega)
  refine ⟨g, o, e, fun M w hs i hi => ?_⟩
  obtain ⟨h1, h2⟩ := xsC_at xs i hi
  have l1 : i * 2 < (xsC xs).length := by rw [xsC_len]; omega
  have l2 : i * 2 + 1 < (xsC xs).length := by rw [xsC_len]; omega
  rw [List.getElem?_eq_getElem l1] at h1
  rw [List.getElem?_eq_getElem l2] at h2
  exact ⟨by rw [hc M w hs _ l1]; exact h1, by rw [Nat.add_assoc, hc M w hs _ l2]; exact h2⟩
theorem Exts.atI {I : Img} {A : Option Addr} {xs : List XD} (h : Exts I A xs) (h0 : 0 < xs.length) : ∃ g o, A = some ⟨g, o, none⟩ ∧ ∀ i (h : i < xs.length), I.cell? ⟨g, o + i * 2, none⟩ = some (.int .i64 xs[i].id) ∧ I.cell? ⟨g, o + i * 2 + 1, none⟩ = some (.slice xs[i].A xs[i].d.length xs[i].c) := by
  obtain ⟨g, o, e, hc⟩ := h.1 (by rw [xsC_len]; omega)
  refine ⟨g, o, e, fun i hi => ?_⟩
  obtain ⟨h1, h2⟩ := xsC_at xs i hi
  have l1 : i * 2 < (xsC xs).length := by rw [xsC_len]; omega
  have l2 : i * 2 + 1 < (xsC xs).length := by rw [xsC_len]; omega
  rw [List.getElem?_eq_getElem l1] at h1
  rw [List.getElem?_eq_getElem l2] at h2
  exact ⟨by rw [hc _ l1]; exact h1, by rw [Nat.add_assoc, hc _ l2]; exact h2⟩
theorem fKeep {J : Img} {M : List Res} {w : World} {q1 g a : Nat} {p : Pf} {cv ev pv x y : Value} (hs : St J M w) (h1 : Blk w q1 28 (pfC p cv ev pv)) (hz : J.cell? ⟨g, a, none⟩ = some x ∧ J.cell? ⟨g, a + 1, none⟩ = some y) :
    w.cell? ⟨q1, 6, none⟩ = some ev ∧ w.cell? ⟨g, a, none⟩ = some x ∧ w.cell? ⟨g, a + 1, none⟩ = some y := ⟨h1.cell 6, hs.cell hz.1, hs.cell hz.2⟩
theorem Exts.mono {I J : Img} {A : Option Addr} {xs : List XD} (h : Exts I A xs) (hl : I.le J) : Exts J A xs := ⟨h.1.mono hl, fun x hx => ⟨(h.2 x hx).1.mono hl, (h.2 x hx).2⟩⟩
theorem info24 : (Try.prog.info? 24).map (fun i => (i.zero, i.size, i.bytes)) = some (some (.int .u32 0), 1, 4) := by kernel_rfl
theorem info45 : (Try.prog.info? 45).map (fun i => (i.zero, i.size, i.bytes)) = some (some (.agg #[.int .i64 0, .slice none 0 0]), 2, 32) := by kernel_rfl
theorem tKeep {w : World} {q : Nat} {p : Pf} {cv ev pv : Value} (h : Blk w q 28 (pfC p cv ev pv)) :
    w.cell? ⟨q, 0, none⟩ = some (.bool p.marker) ∧ w.cell? ⟨q, 1, none⟩ = some (.int .i64 p.typ) ∧ w.cell? ⟨q, 2, none⟩ = some (.int .u16 p.seq) ∧ w.cell? ⟨q, 3, none⟩ = some (.int .u32 p.time) ∧ w.cell? ⟨q, 4, none⟩ = some (.int .u32 p.source) ∧ w.cell? ⟨q, 5, none⟩ = some cv ∧ w.cell? ⟨q, 7, none⟩ = some pv ∧ w.cell? ⟨q, 8, none⟩ = some (.int .i64 p.pad) :=
  ⟨h.cell 0, h.cell 1, h.cell 2, h.cell 3, h.cell 4, h.cell 5, h.cell 7, h.cell 8⟩
theorem res8 (w : World) (q : Nat) (p : Pf) (A1 A2 A3 : Option Addr) (n1 n2 n3 c1 c2 c3 : Nat) (tmps : Array Value) (ht : tmps[2]? = some (.pointer (some ⟨q, 0, none⟩))) (h : Blk w q 37 (pfC p (.slice A1 n1 c1) (.slice A2 n2 c2) (.slice A3 n3 c3))) :
    (results Try.f8 tmps).run Try.prog w = .ok (.agg (pfC p (.slice A1 n1 c1) (.slice A2 n2 c2) (.slice A3 n3 c3))) w := by
  have c0 := h.cell 0
  have d1 := h.cell 1
  have d2 := h.cell 2
  have d3 := h.cell 3
  have c4 := h.cell 4
  have c5 := h.cell 5
  have c6 := h.cell 6
  have c7 := h.cell 7
  have c8 := h.cell 8
  simp only [pfC, List.getElem?_toArray, List.getElem?_cons_zero, List.getElem?_cons_succ] at c0 d1 d2 d3 c4 c5 c6 c7 c8
  simp [results, Try.results8, go_sem, ht, c0, d1, d2, d3, c4, c5, c6, c7, c8]
def TCut (I : Img) (M : List Res) (q1 q2 q3 : Nat) (p : Pf) (cv ev pv : Value) (nc np : Nat) (wx : World) : Prop :=
  ∃ A5 c5 A6 c6, St I (bk q3 37 (pfC p (.slice A5 nc c5) (.slice none 0 0) (.slice A6 np c6)) :: bk q2 37 zC :: bk q1 28 (pfC p cv ev pv) :: M) wx
set_option maxRecDepth 8000 in
set_option maxHeartbeats 8000000 in
theorem theirsC (I : Img) (M : List Res) (w : World) (p : Pf) (cA eA pA : Option Addr) (cc ec pc : Nat) (cs : List Int) (xs : List XD) (bs : List UInt8) (hst : St I M w)
    (hC : Cells I cA (u32s cs)) (hX : Exts I eA xs) (hP : Byts I pA bs) (hlc : cs.length * 4 ≤ 140737488351232) (hlx : xs.length * 32 ≤ 140737488351232) (hlp : bs.length ≤ 140737488351232) :
    Calls Try.prog 8 #[.agg (pfC p (.slice cA cs.length cc) (.slice eA xs.length ec) (.slice pA bs.length pc))] w (Ret I (fun v J M' => M' = M ∧ ∃ cv pv A c ys, v = .agg (pfC p cv (.slice A (List.length ys) c) pv) ∧ ys.map (fun x => (x.id, x.d)) = xs.map (fun x => (x.id, x.d)) ∧ Exts J A ys)) := by
  have HC := Lib.hid hC
  have HX := Lib.hid hX
  have HP := Lib.hid hP
  obtain ⟨i0, hi, hz0, hz1, hz2⟩ := info_parts infoU8
  obtain ⟨i1, hi1, hy0, hy1, hy2⟩ := info_parts info24
  have hst1 := (((hst.alloc 28 (pfC p (.slice cA cs.length cc) (.slice eA xs.length ec) (.slice pA bs.length pc))).alloc 37 zC).nil (e := 5) (size := 1)).nil (e := 24) (size := 1)
  simp only [World.size_alloc] at hst1
  clear hst hC hX hP
  go_enter Try.func8, Try.ntmps8
  go_upto_region 1 with fail
  generalize World.alloc (World.alloc w _) _ = W at hst1 ⊢
  go_cut [3] (fun v wx => ∃ q3, v = .pointer (some ⟨q3, 0, none⟩) ∧ TCut I M w.heap.size (w.heap.size + 1) q3 p (.slice cA cs.length cc) (.slice eA xs.length ec) (.slice pA bs.length pc) cs.length bs.length wx)
  case first =>
    have hs := hst1.drew
    clear hst1
    refine wp_region_held_drew (S := (fun w' => w'.cell? ⟨w.heap.size, 0, none⟩ = some (.bool p.marker) ∧ w'.cell? ⟨w.heap.size, 1, none⟩ = some (.int .i64 p.typ) ∧ w'.cell? ⟨w.heap.size, 2, none⟩ = some (.int .u16 p.seq) ∧ w'.cell? ⟨w.heap.size, 3, none⟩ = some (.int .u32 p.time) ∧ w'.cell? ⟨w.heap.size, 4, none⟩ = some (.int .u32 p.source) ∧ w'.cell? ⟨w.heap.size, 5, none⟩ = some (.slice cA cs.length cc) ∧ w'.cell? ⟨w.heap.size, 7, none⟩ = some (.slice pA bs.length pc) ∧ w'.cell? ⟨w.heap.size, 8, none⟩ = some (.int .i64 p.pad))) (by kernel_rfl) (by (try dsimp only); first | exact tKeep (hs.at 3 rfl) | exact tKeep (hs.at 4 rfl) | exact tKeep ((hs.grow _).at 3 rfl) | exact tKeep ((hs.grow _).at 4 rfl)) (fun hHeld => ?_)
    generalize World.drew W = W at hs hHeld ⊢
    refine wpAnyH_take (i := 0) (oi := _) (v := ?_) rfl (by kernel_rfl) (by kernel_rfl) (by kernel_rfl) (fun _ _ _ h => h) (Or.inl ⟨by rfl, ?_⟩) (by assumption) ?_
    rotate_left
    · (intro w hSw; (try dsimp only at hSw); go_simp; try with_reducible rfl)
    try simp only [Act.put, List.getElem_toArray, List.getElem_cons_zero, List.getElem_cons_succ, List.setIfInBounds_toArray, List.set_cons_zero, List.set_cons_succ]
    refine wpAnyH_take (i := 1) (oi := _) (v := ?_) rfl (by kernel_rfl) (by kernel_rfl) (by kernel_rfl) (fun _ _ _ h => h) (Or.inl ⟨by rfl, ?_⟩) (by assumption) ?_
    rotate_left
    · (intro w hSw; (try dsimp only at hSw); go_simp; try with_reducible rfl)
    try simp only [Act.put, List.getElem_toArray, List.getElem_cons_zero, List.getElem_cons_succ, List.setIfInBounds_toArray, List.set_cons_zero, List.set_cons_succ]
    refine wpAnyH_take (i := 2) (oi := _) (v := ?_) rfl (by kernel_rfl) (by kernel_rfl) (by kernel_rfl) (fun _ _ _ h => h) (Or.inl ⟨by rfl, ?_⟩) (by assumption) ?_
    rotate_left
    · (intro w hSw; (try dsimp only at hSw); go_simp; try with_reducible rfl)
    try simp only [Act.put, List.getElem_toArray, List.getElem_cons_zero, List.getElem_cons_succ, List.setIfInBounds_toArray, List.set_cons_zero, List.set_cons_succ]
    refine wpAnyH_take (i := 3) (oi := _) (v := ?_) rfl (by kernel_rfl) (by kernel_rfl) (by kernel_rfl) (fun _ _ _ h => h) (Or.inl ⟨by rfl, ?_⟩) (by assumption) ?_
    rotate_left
    · (intro w hSw; (try dsimp only at hSw); go_simp; try with_reducible rfl)
    try simp only [Act.put, List.getElem_toArray, List.getElem_cons_zero, List.getElem_cons_succ, List.setIfInBounds_toArray, List.set_cons_zero, List.set_cons_succ]
    refine wpAnyH_take (i := 4) (oi := _) (v := ?_) rfl (by kernel_rfl) (by kernel_rfl) (by kernel_rfl) (fun _ _ _ h => h) (Or.inl ⟨by rfl, ?_⟩) (by assumption) ?_
    rotate_left
    · (intro w hSw; (try dsimp only at hSw); go_simp; try with_reducible rfl)
    try simp only [Act.put, List.getElem_toArray, List.getElem_cons_zero, List.getElem_cons_succ, List.setIfInBounds_toArray, List.set_cons_zero, List.set_cons_succ]
    refine wpAnyH_take (i := 5) (oi := _) (v := ?_) rfl (by kernel_rfl) (by kernel_rfl) (by kernel_rfl) (fun _ _ _ h => h) (Or.inl ⟨by rfl, ?_⟩) (by assumption) ?_
    rotate_left
    · (intro w hSw; (try dsimp only at hSw); go_simp; try with_reducible rfl)
    try simp only [Act.put, List.getElem_toArray, List.getElem_cons_zero, List.getElem_cons_succ, List.setIfInBounds_toArray, List.set_cons_zero, List.set_cons_succ]
    refine wpAnyH_take (i := 6) (oi := _) (v := ?_) rfl (by kernel_rfl) (by kernel_rfl) (by kernel_rfl) (fun _ _ _ h => h) (Or.inl ⟨by rfl, ?_⟩) (by assumption) ?_
    rotate_left
    · (intro w hSw; (try dsimp only at hSw); go_simp; try with_reducible rfl)
    try simp only [Act.put, List.getElem_toArray, List.getElem_cons_zero, List.getElem_cons_succ, List.setIfInBounds_toArray, List.set_cons_zero, List.set_cons_succ]
    refine wpAnyH_take (i := 7) (oi := _) (v := ?_) rfl (by kernel_rfl) (by kernel_rfl) (by kernel_rfl) (fun _ _ _ h => h) (Or.inl ⟨by rfl, ?_⟩) (by assumption) ?_
    rotate_left
    · (intro w hSw; (try dsimp only at hSw); go_simp; try with_reducible rfl)
    try simp only [Act.put, List.getElem_toArray, List.getElem_cons_zero, List.getElem_cons_succ, List.setIfInBounds_toArray, List.set_cons_zero, List.set_cons_succ]
    refine wpAnyH_take (i := 8) (oi := _) (v := ?_) rfl (by kernel_rfl) (by kernel_rfl) (by kernel_rfl) (fun _ _ _ h => h) (Or.inl ⟨by rfl, ?_⟩) (by assumption) ?_
    rotate_left
    · (intro w hSw; (try dsimp only at hSw); go_simp; try with_reducible rfl)
    try simp only [Act.put, List.getElem_toArray, List.getElem_cons_zero, List.getElem_cons_succ, List.setIfInBounds_toArray, List.set_cons_zero, List.set_cons_succ]
    refine wpAnyH_take (i := 9) (oi := _) (v := ?_) rfl (by kernel_rfl) (by kernel_rfl) (by kernel_rfl) (fun _ _ _ h => h) (Or.inl ⟨by rfl, ?_⟩) (by assumption) ?_
    rotate_left
    · (intro w hSw; (try dsimp only at hSw); go_simp; try with_reducible rfl)
    try simp only [Act.put, List.getElem_toArray, List.getElem_cons_zero, List.getElem_cons_succ, List.setIfInBounds_toArray, List.set_cons_zero, List.set_cons_succ]
    refine wpAnyH_take (i := 11) (oi := _) (v := ?_) rfl (by kernel_rfl) (by kernel_rfl) (by kernel_rfl) (fun _ _ _ h => h) (Or.inl ⟨by rfl, ?_⟩) (by assumption) ?_
    rotate_left
    · (intro w hSw; (try dsimp only at hSw); go_simp; try with_reducible rfl)
    try simp only [Act.put, List.getElem_toArray, List.getElem_cons_zero, List.getElem_cons_succ, List.setIfInBounds_toArray, List.set_cons_zero, List.set_cons_succ]
    refine wpAnyH_take (i := 12) (oi := _) (v := ?_) rfl (by kernel_rfl) (by kernel_rfl) (by kernel_rfl) (fun _ _ _ h => h) (Or.inl ⟨by rfl, ?_⟩) (by assumption) ?_
    rotate_left
    · (intro w hSw; (try dsimp only at hSw); go_simp; try with_reducible rfl)
    try simp only [Act.put, List.getElem_toArray, List.getElem_cons_zero, List.getElem_cons_succ, List.setIfInBounds_toArray, List.set_cons_zero, List.set_cons_succ]
    refine wpAnyH_take (i := 15) (oi := _) (v := ?_) rfl (by kernel_rfl) (by kernel_rfl) (by kernel_rfl) (fun _ _ _ h => h) (Or.inl ⟨by rfl, ?_⟩) (by assumption) ?_
    rotate_left
    · (intro w hSw; (try dsimp only at hSw); go_simp; try with_reducible rfl)
    try simp only [Act.put, List.getElem_toArray, List.getElem_cons_zero, List.getElem_cons_succ, List.setIfInBounds_toArray, List.set_cons_zero, List.set_cons_succ]
    refine wpAnyH_take (i := 16) (oi := _) (v := ?_) rfl (by kernel_rfl) (by kernel_rfl) (by kernel_rfl) (fun _ _ _ h => h) (Or.inl ⟨by rfl, ?_⟩) (by assumption) ?_
    rotate_left
    · (intro w hSw; (try dsimp only at hSw); go_simp; try with_reducible rfl)
    try simp only [Act.put, List.getElem_toArray, List.getElem_cons_zero, List.getElem_cons_succ, List.setIfInBounds_toArray, List.set_cons_zero, List.set_cons_succ]
    refine wpAnyH_take (i := 18) (oi := _) (v := ?_) rfl (by kernel_rfl) (by kernel_rfl) (by kernel_rfl) (fun _ _ _ h => h) (Or.inl ⟨by rfl, ?_⟩) (by assumption) ?_
    rotate_left
    · (intro w hSw; (try dsimp only at hSw); go_simp; try with_reducible rfl)
    try simp only [Act.put, List.getElem_toArray, List.getElem_cons_zero, List.getElem_cons_succ, List.setIfInBounds_toArray, List.set_cons_zero, List.set_cons_succ]
    refine wpAnyH_take (i := 19) (oi := _) (v := ?_) rfl (by kernel_rfl) (by kernel_rfl) (by kernel_rfl) (fun _ _ _ h => h) (Or.inl ⟨by rfl, ?_⟩) (by assumption) ?_
    rotate_left
    · (intro w hSw; (try dsimp only at hSw); go_simp; try with_reducible rfl)
    try simp only [Act.put, List.getElem_toArray, List.getElem_cons_zero, List.getElem_cons_succ, List.setIfInBounds_toArray, List.set_cons_zero, List.set_cons_succ]
    refine wpAnyH_ready (rs := [10, 14, 21]) (by kernel_rfl) (by simp) ?_
    refine (AllReadyH.cons (o := _) rfl (fun K hK => ?_) (AllReadyH.cons (o := _) rfl (fun K hK => ?_) (AllReadyH.cons (o := _) rfl (fun K hK => ?_) AllReadyH.nil)))
    · skip
      go_simp
      try clear hHeld
      refine hK.out _ _ (by (try dsimp only); first | exact tKeep (hs.at 3 rfl) | exact tKeep (hs.at 4 rfl) | exact tKeep ((hs.grow _).at 3 rfl) | exact tKeep ((hs.grow _).at 4 rfl)) (fun hHeld => ?_)
      clear hK K
      try simp only [Act.put, List.getElem_toArray, List.getElem_cons_zero, List.getElem_cons_succ, List.setIfInBounds_toArray, List.set_cons_zero, List.set_cons_succ]
      generalize hw : World.alloc W _ = W at hHeld ⊢
      replace hs := hs.drop.lit0To hw
      clear hw
      refine wpAnyH_ready (rs := [13, 14, 21]) (by kernel_rfl) (by simp) ?_
      refine (AllReadyH.cons (o := _) rfl (fun K hK => ?_) (AllReadyH.cons (o := _) rfl (fun K hK => ?_) (AllReadyH.cons (o := _) rfl (fun K hK => ?_) AllReadyH.nil)))
      · skip
        refine step_append_src _ (by rfl) _ _ 25 25 (by rfl) 0 24 i1 (.int .u32 0) 1 4 Try.underlying25 hi1 hy0 hy1 hy2 rfl _ 0 [] (by rfl) hs.head (.slice cA cs.length cc) cs.length (u32s cs) (by rfl) (HC.out.src hs (by simp [u32s]) (by decide) Try.underlying25 cc (u32s_one cs)) (by unfold maxLen; omega) (by omega) (Nat.zero_le _) ?_
        intro v' W hown' hgrow hat
        have hown2 : W.ownsRow 0 24 1 v' cs.length (u32s cs) := by simpa using hown'
        obtain ⟨A5, c5, rfl⟩ := own_form hown2
        replace hs := hs.grown hgrow hown2 hat
        clear hown' hown2 hgrow hat
        try clear hHeld
        refine hK.out _ _ (by (try dsimp only); first | exact tKeep (hs.at 3 rfl) | exact tKeep (hs.at 4 rfl) | exact tKeep ((hs.grow _).at 3 rfl) | exact tKeep ((hs.grow _).at 4 rfl)) (fun hHeld => ?_)
        clear hK K
        try simp only [Act.put, List.getElem_toArray, List.getElem_cons_zero, List.getElem_cons_succ, List.setIfInBounds_toArray, List.set_cons_zero, List.set_cons_succ]
        refine wpAnyH_ready (rs := [14, 21]) (by kernel_rfl) (by simp) ?_
        refine (AllReadyH.cons (o := _) rfl (fun K hK => ?_) (AllReadyH.cons (o := _) rfl (fun K hK => ?_) AllReadyH.nil))
        · skip
          go_simp
          try clear hHeld
          refine hK.out _ _ (by (try dsimp only); first | exact tKeep (hs.at 3 rfl) | exact tKeep (hs.at 4 rfl) | exact tKeep ((hs.grow _).at 3 rfl) | exact tKeep ((hs.grow _).at 4 rfl)) (fun hHeld => ?_)
          clear hK K
          try simp only [Act.put, List.getElem_toArray, List.getElem_cons_zero, List.getElem_cons_succ, List.setIfInBounds_toArray, List.set_cons_zero, List.set_cons_succ]
          generalize hw : World.alloc W _ = W at hHeld ⊢
          replace hs := (hs.swap1.drop.lit0To hw).swap1
          clear hw
          refine wpAnyH_ready (rs := [17, 21]) (by kernel_rfl) (by simp) ?_
          refine (AllReadyH.cons (o := _) rfl (fun K hK => ?_) (AllReadyH.cons (o := _) rfl (fun K hK => ?_) AllReadyH.nil))
          · skip
            replace hs := hs.swap1
            refine step_append_src _ (by rfl) _ _ 22 22 (by rfl) 0 5 i0 (.int .u8 0) 1 1 Try.underlying22 hi hz0 hz1 hz2 rfl _ 0 [] (by rfl) hs.head (.slice pA bs.length pc) bs.length (bvs bs) (by rfl) (HP.out.src hs Try.underlying22 pc) (by unfold maxLen; omega) (by omega) (Nat.zero_le _) ?_
            intro v' W hown' hgrow hat
            have hown2 : W.ownsRow 0 5 1 v' bs.length (bvs bs) := by simpa using hown'
            obtain ⟨A6, c6, rfl⟩ := own_form hown2
            replace hs := (hs.grown hgrow hown2 hat).swap1
            clear hown' hown2 hgrow hat
            try clear hHeld
            refine hK.out _ _ (by (try dsimp only); first | exact tKeep (hs.at 3 rfl) | exact tKeep (hs.at 4 rfl) | exact tKeep ((hs.grow _).at 3 rfl) | exact tKeep ((hs.grow _).at 4 rfl)) (fun hHeld => ?_)
            clear hK K
            try simp only [Act.put, List.getElem_toArray, List.getElem_cons_zero, List.getElem_cons_succ, List.setIfInBounds_toArray, List.set_cons_zero, List.set_cons_succ]
            refine wpAnyH_take (i := 20) (oi := _) (v := ?_) rfl (by kernel_rfl) (by kernel_rfl) (by kernel_rfl) (fun _ _ _ h => h) (Or.inl ⟨by rfl, ?_⟩) (by assumption) ?_
            rotate_left
            · (intro w hSw; (try dsimp only at hSw); go_simp; try with_reducible rfl)
            try simp only [Act.put, List.getElem_toArray, List.getElem_cons_zero, List.getElem_cons_succ, List.setIfInBounds_toArray, List.set_cons_zero, List.set_cons_succ]
            refine wpAnyH_ready (rs := [21]) (by kernel_rfl) (by simp) ?_
            refine (AllReadyH.cons (o := _) rfl (fun K hK => ?_) AllReadyH.nil)
            go_simp
            obtain ⟨q3, hq3⟩ : ∃ n, n = W.heap.size := ⟨_, rfl⟩
            rw [← hq3]
            try clear hHeld
            refine hK.out _ _ (by (try dsimp only); first | exact tKeep (hs.at 3 rfl) | exact tKeep (hs.at 4 rfl) | exact tKeep ((hs.grow _).at 3 rfl) | exact tKeep ((hs.grow _).at 4 rfl)) (fun hHeld => ?_)
            clear hK K
            try simp only [Act.put, List.getElem_toArray, List.getElem_cons_zero, List.getElem_cons_succ, List.setIfInBounds_toArray, List.set_cons_zero, List.set_cons_succ]
            generalize hw : World.alloc W _ = W at hHeld ⊢
            replace hs := hs.alloc2To hw hq3
            clear hw hq3
            refine wpAnyH_ready (rs := [22]) (by kernel_rfl) (by simp) ?_
            refine (AllReadyH.cons (o := _) rfl (fun K hK => ?_) AllReadyH.nil)
            refine step_store_row (by rfl) 37 _ _ (by rfl) q3 (pfC p (.slice A5 cs.length c5) (.slice none 0 0) (.slice A6 bs.length c6)) (by rfl) (by rfl) 37 _ (hs.at 2 rfl) pkI rfl (by simp [Value.oneCell']) ?_
            replace hs := hs.setR2 (pfC p (.slice A5 cs.length c5) (.slice none 0 0) (.slice A6 bs.length c6))
            try clear hHeld
            refine hK.out _ _ (by (try dsimp only); first | exact tKeep (hs.at 3 rfl) | exact tKeep (hs.at 4 rfl) | exact tKeep ((hs.grow _).at 3 rfl) | exact tKeep ((hs.grow _).at 4 rfl)) (fun hHeld => ?_)
            clear hK K
            try simp only [Act.put, List.getElem_toArray, List.getElem_cons_zero, List.getElem_cons_succ, List.setIfInBounds_toArray, List.set_cons_zero, List.set_cons_succ]
            refine wpAnyH_done (by kernel_rfl) ?_ _
            go_wp2
            go_meet
            exact ⟨q3, rfl, A5, c5, A6, c6, hs.drop.drop⟩
          · skip
            go_simp
            obtain ⟨q3, hq3⟩ : ∃ n, n = W.heap.size := ⟨_, rfl⟩
            rw [← hq3]
            try clear hHeld
            refine hK.out _ _ (by (try dsimp only); first | exact tKeep (hs.at 3 rfl) | exact tKeep (hs.at 4 rfl) | exact tKeep ((hs.grow _).at 3 rfl) | exact tKeep ((hs.grow _).at 4 rfl)) (fun hHeld => ?_)
            clear hK K
            try simp only [Act.put, List.getElem_toArray, List.getElem_cons_zero, List.getElem_cons_succ, List.setIfInBounds_toArray, List.set_cons_zero, List.set_cons_succ]
            generalize hw : World.alloc W _ = W at hHeld ⊢
            replace hs := hs.alloc2To hw hq3
            clear hw hq3
            refine wpAnyH_ready (rs := [17]) (by kernel_rfl) (by simp) ?_
            refine (AllReadyH.cons (o := _) rfl (fun K hK => ?_) AllReadyH.nil)
            replace hs := hs.swap1
            refine step_append_src _ (by rfl) _ _ 22 22 (by rfl) 0 5 i0 (.int .u8 0) 1 1 Try.underlying22 hi hz0 hz1 hz2 rfl _ 0 [] (by rfl) hs.head (.slice pA bs.length pc) bs.length (bvs bs) (by rfl) (HP.out.src hs Try.underlying22 pc) (by unfold maxLen; omega) (by omega) (Nat.zero_le _) ?_
            intro v' W hown' hgrow hat
            have hown2 : W.ownsRow 0 5 1 v' bs.length (bvs bs) := by simpa using hown'
            obtain ⟨A6, c6, rfl⟩ := own_form hown2
            replace hs := (hs.grown hgrow hown2 hat).swap1
            clear hown' hown2 hgrow hat
            try clear hHeld
            refine hK.out _ _ (by (try dsimp only); first | exact tKeep (hs.at 3 rfl) | exact tKeep (hs.at 4 rfl) | exact tKeep ((hs.grow _).at 3 rfl) | exact tKeep ((hs.grow _).at 4 rfl)) (fun hHeld => ?_)
            clear hK K
            try simp only [Act.put, List.getElem_toArray, List.getElem_cons_zero, List.getElem_cons_succ, List.setIfInBounds_toArray, List.set_cons_zero, List.set_cons_succ]
            refine wpAnyH_take (i := 20) (oi := _) (v := ?_) rfl (by kernel_rfl) (by kernel_rfl) (by kernel_rfl) (fun _ _ _ h => h) (Or.inl ⟨by rfl, ?_⟩) (by assumption) ?_
            rotate_left
            · (intro w hSw; (try dsimp only at hSw); go_simp; try with_reducible rfl)
            try simp only [Act.put, List.getElem_toArray, List.getElem_cons_zero, List.getElem_cons_succ, List.setIfInBounds_toArray, List.set_cons_zero, List.set_cons_succ]
            refine wpAnyH_ready (rs := [22]) (by kernel_rfl) (by simp) ?_
            refine (AllReadyH.cons (o := _) rfl (fun K hK => ?_) AllReadyH.nil)
            refine step_store_row (by rfl) 37 _ _ (by rfl) q3 (pfC p (.slice A5 cs.length c5) (.slice none 0 0) (.slice A6 bs.length c6)) (by rfl) (by rfl) 37 _ (hs.at 2 rfl) pkI rfl (by simp [Value.oneCell']) ?_
            replace hs := hs.setR2 (pfC p (.slice A5 cs.length c5) (.slice none 0 0) (.slice A6 bs.length c6))
            try clear hHeld
            refine hK.out _ _ (by (try dsimp only); first | exact tKeep (hs.at 3 rfl) | exact tKeep (hs.at 4 rfl) | exact tKeep ((hs.grow _).at 3 rfl) | exact tKeep ((hs.grow _).at 4 rfl)) (fun hHeld => ?_)
            clear hK K
            try simp only [Act.put, List.getElem_toArray, List.getElem_cons_zero, List.getElem_cons_succ, List.setIfInBounds_toArray, List.set_cons_zero, List.set_cons_succ]
            refine wpAnyH_done (by kernel_rfl) ?_ _
            go_wp2
            go_meet
            exact ⟨q3, rfl, A5, c5, A6, c6, hs.drop.drop⟩
        · skip
          go_simp
          obtain ⟨q3, hq3⟩ : ∃ n, n = W.heap.size := ⟨_, rfl⟩
          rw [← hq3]
          try clear hHeld
          refine hK.out _ _ (by (try dsimp only); first | exact tKeep (hs.at 3 rfl) | exact tKeep (hs.at 4 rfl) | exact tKeep ((hs.grow _).at 3 rfl) | exact tKeep ((hs.grow _).at 4 rfl)) (fun hHeld => ?_)
          clear hK K
          try simp only [Act.put, List.getElem_toArray, List.getElem_cons_zero, List.getElem_cons_succ, List.setIfInBounds_toArray, List.set_cons_zero, List.set_cons_succ]
          generalize hw : World.alloc W _ = W at hHeld ⊢
          replace hs := hs.alloc2To hw hq3
          clear hw hq3
          refine wpAnyH_ready (rs := [14]) (by kernel_rfl) (by simp) ?_
          refine (AllReadyH.cons (o := _) rfl (fun K hK => ?_) AllReadyH.nil)
          go_simp
          try clear hHeld
          refine hK.out _ _ (by (try dsimp only); first | exact tKeep (hs.at 3 rfl) | exact tKeep (hs.at 4 rfl) | exact tKeep ((hs.grow _).at 3 rfl) | exact tKeep ((hs.grow _).at 4 rfl)) (fun hHeld => ?_)
          clear hK K
          try simp only [Act.put, List.getElem_toArray, List.getElem_cons_zero, List.getElem_cons_succ, List.setIfInBounds_toArray, List.set_cons_zero, List.set_cons_succ]
          generalize hw : World.alloc W _ = W at hHeld ⊢
          replace hs := (hs.swap1.drop.lit0To hw).swap1
          clear hw
          refine wpAnyH_ready (rs := [17]) (by kernel_rfl) (by simp) ?_
          refine (AllReadyH.cons (o := _) rfl (fun K hK => ?_) AllReadyH.nil)
          replace hs := hs.swap1
          refine step_append_src _ (by rfl) _ _ 22 22 (by rfl) 0 5 i0 (.int .u8 0) 1 1 Try.underlying22 hi hz0 hz1 hz2 rfl _ 0 [] (by rfl) hs.head (.slice pA bs.length pc) bs.length (bvs bs) (by rfl) (HP.out.src hs Try.underlying22 pc) (by unfold maxLen; omega) (by omega) (Nat.zero_le _) ?_
          intro v' W hown' hgrow hat
          have hown2 : W.ownsRow 0 5 1 v' bs.length (bvs bs) := by simpa using hown'
          obtain ⟨A6, c6, rfl⟩ := own_form hown2
          replace hs := (hs.grown hgrow hown2 hat).swap1
          clear hown' hown2 hgrow hat
          try clear hHeld
          refine hK.out _ _ (by (try dsimp only); first | exact tKeep (hs.at 3 rfl) | exact tKeep (hs.at 4 rfl) | exact tKeep ((hs.grow _).at 3 rfl) | exact tKeep ((hs.grow _).at 4 rfl)) (fun hHeld => ?_)
          clear hK K
          try simp only [Act.put, List.getElem_toArray, List.getElem_cons_zero, List.getElem_cons_succ, List.setIfInBounds_toArray, List.set_cons_zero, List.set_cons_succ]
          refine wpAnyH_take (i := 20) (oi := _) (v := ?_) rfl (by kernel_rfl) (by kernel_rfl) (by kernel_rfl) (fun _ _ _ h => h) (Or.inl ⟨by rfl, ?_⟩) (by assumption) ?_
          rotate_left
          · (intro w hSw; (try dsimp only at hSw); go_simp; try with_reducible rfl)
          try simp only [Act.put, List.getElem_toArray, List.getElem_cons_zero, List.getElem_cons_succ, List.setIfInBounds_toArray, List.set_cons_zero, List.set_cons_succ]
          refine wpAnyH_ready (rs := [22]) (by kernel_rfl) (by simp) ?_
          refine (AllReadyH.cons (o := _) rfl (fun K hK => ?_) AllReadyH.nil)
          refine step_store_row (by rfl) 37 _ _ (by rfl) q3 (pfC p (.slice A5 cs.length c5) (.slice none 0 0) (.slice A6 bs.length c6)) (by rfl) (by rfl) 37 _ (hs.at 2 rfl) pkI rfl (by simp [Value.oneCell']) ?_
          replace hs := hs.setR2 (pfC p (.slice A5 cs.length c5) (.slice none 0 0) (.slice A6 bs.length c6))
          try clear hHeld
          refine hK.out _ _ (by (try dsimp only); first | exact tKeep (hs.at 3 rfl) | exact tKeep (hs.at 4 rfl) | exact tKeep ((hs.grow _).at 3 rfl) | exact tKeep ((hs.grow _).at 4 rfl)) (fun hHeld => ?_)
          clear hK K
          try simp only [Act.put, List.getElem_toArray, List.getElem_cons_zero, List.getElem_cons_succ, List.setIfInBounds_toArray, List.set_cons_zero, List.set_cons_succ]
          refine wpAnyH_done (by kernel_rfl) ?_ _
          go_wp2
          go_meet
          exact ⟨q3, rfl, A5, c5, A6, c6, hs.drop.drop⟩
      · skip
        go_simp
        try clear hHeld
        refine hK.out _ _ (by (try dsimp only); first | exact tKeep (hs.at 3 rfl) | exact tKeep (hs.at 4 rfl) | exact tKeep ((hs.grow _).at 3 rfl) | exact tKeep ((hs.grow _).at 4 rfl)) (fun hHeld => ?_)
        clear hK K
        try simp only [Act.put, List.getElem_toArray, List.getElem_cons_zero, List.getElem_cons_succ, List.setIfInBounds_toArray, List.set_cons_zero, List.set_cons_succ]
        generalize hw : World.alloc W _ = W at hHeld ⊢
        replace hs := (hs.swap1.drop.lit0To hw).swap1
        clear hw
        refine wpAnyH_ready (rs := [13, 21]) (by kernel_rfl) (by simp) ?_
        refine (AllReadyH.cons (o := _) rfl (fun K hK => ?_) (AllReadyH.cons (o := _) rfl (fun K hK => ?_) AllReadyH.nil))
        · skip
          refine step_append_src _ (by rfl) _ _ 25 25 (by rfl) 0 24 i1 (.int .u32 0) 1 4 Try.underlying25 hi1 hy0 hy1 hy2 rfl _ 0 [] (by rfl) hs.head (.slice cA cs.length cc) cs.length (u32s cs) (by rfl) (HC.out.src hs (by simp [u32s]) (by decide) Try.underlying25 cc (u32s_one cs)) (by unfold maxLen; omega) (by omega) (Nat.zero_le _) ?_
          intro v' W hown' hgrow hat
          have hown2 : W.ownsRow 0 24 1 v' cs.length (u32s cs) := by simpa using hown'
          obtain ⟨A5, c5, rfl⟩ := own_form hown2
          replace hs := hs.grown hgrow hown2 hat
          clear hown' hown2 hgrow hat
          try clear hHeld
          refine hK.out _ _ (by (try dsimp only); first | exact tKeep (hs.at 3 rfl) | exact tKeep (hs.at 4 rfl) | exact tKeep ((hs.grow _).at 3 rfl) | exact tKeep ((hs.grow _).at 4 rfl)) (fun hHeld => ?_)
          clear hK K
          try simp only [Act.put, List.getElem_toArray, List.getElem_cons_zero, List.getElem_cons_succ, List.setIfInBounds_toArray, List.set_cons_zero, List.set_cons_succ]
          refine wpAnyH_ready (rs := [17, 21]) (by kernel_rfl) (by simp) ?_
          refine (AllReadyH.cons (o := _) rfl (fun K hK => ?_) (AllReadyH.cons (o := _) rfl (fun K hK => ?_) AllReadyH.nil))
          · skip
            replace hs := hs.swap1
            refine step_append_src _ (by rfl) _ _ 22 22 (by rfl) 0 5 i0 (.int .u8 0) 1 1 Try.underlying22 hi hz0 hz1 hz2 rfl _ 0 [] (by rfl) hs.head (.slice pA bs.length pc) bs.length (bvs bs) (by rfl) (HP.out.src hs Try.underlying22 pc) (by unfold maxLen; omega) (by omega) (Nat.zero_le _) ?_
            intro v' W hown' hgrow hat
            have hown2 : W.ownsRow 0 5 1 v' bs.length (bvs bs) := by simpa using hown'
            obtain ⟨A6, c6, rfl⟩ := own_form hown2
            replace hs := (hs.grown hgrow hown2 hat).swap1
            clear hown' hown2 hgrow hat
            try clear hHeld
            refine hK.out _ _ (by (try dsimp only); first | exact tKeep (hs.at 3 rfl) | exact tKeep (hs.at 4 rfl) | exact tKeep ((hs.grow _).at 3 rfl) | exact tKeep ((hs.grow _).at 4 rfl)) (fun hHeld => ?_)
            clear hK K
            try simp only [Act.put, List.getElem_toArray, List.getElem_cons_zero, List.getElem_cons_succ, List.setIfInBounds_toArray, List.set_cons_zero, List.set_cons_succ]
            refine wpAnyH_take (i := 20) (oi := _) (v := ?_) rfl (by kernel_rfl) (by kernel_rfl) (by kernel_rfl) (fun _ _ _ h => h) (Or.inl ⟨by rfl, ?_⟩) (by assumption) ?_
            rotate_left
            · (intro w hSw; (try dsimp only at hSw); go_simp; try with_reducible rfl)
            try simp only [Act.put, List.getElem_toArray, List.getElem_cons_zero, List.getElem_cons_succ, List.setIfInBounds_toArray, List.set_cons_zero, List.set_cons_succ]
            refine wpAnyH_ready (rs := [21]) (by kernel_rfl) (by simp) ?_
            refine (AllReadyH.cons (o := _) rfl (fun K hK => ?_) AllReadyH.nil)
            go_simp
            obtain ⟨q3, hq3⟩ : ∃ n, n = W.heap.size := ⟨_, rfl⟩
            rw [← hq3]
            try clear hHeld
            refine hK.out _ _ (by (try dsimp only); first | exact tKeep (hs.at 3 rfl) | exact tKeep (hs.at 4 rfl) | exact tKeep ((hs.grow _).at 3 rfl) | exact tKeep ((hs.grow _).at 4 rfl)) (fun hHeld => ?_)
            clear hK K
            try simp only [Act.put, List.getElem_toArray, List.getElem_cons_zero, List.getElem_cons_succ, List.setIfInBounds_toArray, List.set_cons_zero, List.set_cons_succ]
            generalize hw : World.alloc W _ = W at hHeld ⊢
            replace hs := hs.alloc2To hw hq3
            clear hw hq3
            refine wpAnyH_ready (rs := [22]) (by kernel_rfl) (by simp) ?_
            refine (AllReadyH.cons (o := _) rfl (fun K hK => ?_) AllReadyH.nil)
            refine step_store_row (by rfl) 37 _ _ (by rfl) q3 (pfC p (.slice A5 cs.length c5) (.slice none 0 0) (.slice A6 bs.length c6)) (by rfl) (by rfl) 37 _ (hs.at 2 rfl) pkI rfl (by simp [Value.oneCell']) ?_
            replace hs := hs.setR2 (pfC p (.slice A5 cs.length c5) (.slice none 0 0) (.slice A6 bs.length c6))
            try clear hHeld
            refine hK.out _ _ (by (try dsimp only); first | exact tKeep (hs.at 3 rfl) | exact tKeep (hs.at 4 rfl) | exact tKeep ((hs.grow _).at 3 rfl) | exact tKeep ((hs.grow _).at 4 rfl)) (fun hHeld => ?_)
            clear hK K
            try simp only [Act.put, List.getElem_toArray, List.getElem_cons_zero, List.getElem_cons_succ, List.setIfInBounds_toArray, List.set_cons_zero, List.set_cons_succ]
            refine wpAnyH_done (by kernel_rfl) ?_ _
            go_wp2
            go_meet
            exact ⟨q3, rfl, A5, c5, A6, c6, hs.drop.drop⟩
          · skip
            go_simp
            obtain ⟨q3, hq3⟩ : ∃ n, n = W.heap.size := ⟨_, rfl⟩
            rw [← hq3]
            try clear hHeld
            refine hK.out _ _ (by (try dsimp only); first | exact tKeep (hs.at 3 rfl) | exact tKeep (hs.at 4 rfl) | exact tKeep ((hs.grow _).at 3 rfl) | exact tKeep ((hs.grow _).at 4 rfl)) (fun hHeld => ?_)
            clear hK K
            try simp only [Act.put, List.getElem_toArray, List.getElem_cons_zero, List.getElem_cons_succ, List.setIfInBounds_toArray, List.set_cons_zero, List.set_cons_succ]
            generalize hw : World.alloc W _ = W at hHeld ⊢
            replace hs := hs.alloc2To hw hq3
            clear hw hq3
            refine wpAnyH_ready (rs := [17]) (by kernel_rfl) (by simp) ?_
            refine (AllReadyH.cons (o := _) rfl (fun K hK => ?_) AllReadyH.nil)
            replace hs := hs.swap1
            refine step_append_src _ (by rfl) _ _ 22 22 (by rfl) 0 5 i0 (.int .u8 0) 1 1 Try.underlying22 hi hz0 hz1 hz2 rfl _ 0 [] (by rfl) hs.head (.slice pA bs.length pc) bs.length (bvs bs) (by rfl) (HP.out.src hs Try.underlying22 pc) (by unfold maxLen; omega) (by omega) (Nat.zero_le _) ?_
            intro v' W hown' hgrow hat
            have hown2 : W.ownsRow 0 5 1 v' bs.length (bvs bs) := by simpa using hown'
            obtain ⟨A6, c6, rfl⟩ := own_form hown2
            replace hs := (hs.grown hgrow hown2 hat).swap1
            clear hown' hown2 hgrow hat
            try clear hHeld
            refine hK.out _ _ (by (try dsimp only); first | exact tKeep (hs.at 3 rfl) | exact tKeep (hs.at 4 rfl) | exact tKeep ((hs.grow _).at 3 rfl) | exact tKeep ((hs.grow _).at 4 rfl)) (fun hHeld => ?_)
            clear hK K
            try simp only [Act.put, List.getElem_toArray, List.getElem_cons_zero, List.getElem_cons_succ, List.setIfInBounds_toArray, List.set_cons_zero, List.set_cons_succ]
            refine wpAnyH_take (i := 20) (oi := _) (v := ?_) rfl (by kernel_rfl) (by kernel_rfl) (by kernel_rfl) (fun _ _ _ h => h) (Or.inl ⟨by rfl, ?_⟩) (by assumption) ?_
            rotate_left
            · (intro w hSw; (try dsimp only at hSw); go_simp; try with_reducible rfl)
            try simp only [Act.put, List.getElem_toArray, List.getElem_cons_zero, List.getElem_cons_succ, List.setIfInBounds_toArray, List.set_cons_zero, List.set_cons_succ]
            refine wpAnyH_ready (rs := [22]) (by kernel_rfl) (by simp) ?_
            refine (AllReadyH.cons (o := _) rfl (fun K hK => ?_) AllReadyH.nil)
            refine step_store_row (by rfl) 37 _ _ (by rfl) q3 (pfC p (.slice A5 cs.length c5) (.slice none 0 0) (.slice A6 bs.length c6)) (by rfl) (by rfl) 37 _ (hs.at 2 rfl) pkI rfl (by simp [Value.oneCell']) ?_
            replace hs := hs.setR2 (pfC p (.slice A5 cs.length c5) (.slice none 0 0) (.slice A6 bs.length c6))
            try clear hHeld
            refine hK.out _ _ (by (try dsimp only); first | exact tKeep (hs.at 3 rfl) | exact tKeep (hs.at 4 rfl) | exact tKeep ((hs.grow _).at 3 rfl) | exact tKeep ((hs.grow _).at 4 rfl)) (fun hHeld => ?_)
            clear hK K
            try simp only [Act.put, List.getElem_toArray, List.getElem_cons_zero, List.getElem_cons_succ, List.setIfInBounds_toArray, List.set_cons_zero, List.set_cons_succ]
            refine wpAnyH_done (by kernel_rfl) ?_ _
            go_wp2
            go_meet
            exact ⟨q3, rfl, A5, c5, A6, c6, hs.drop.drop⟩
        · skip
          go_simp
          obtain ⟨q3, hq3⟩ : ∃ n, n = W.heap.size := ⟨_, rfl⟩
          rw [← hq3]
          try clear hHeld
          refine hK.out _ _ (by (try dsimp only); first | exact tKeep (hs.at 3 rfl) | exact tKeep (hs.at 4 rfl) | exact tKeep ((hs.grow _).at 3 rfl) | exact tKeep ((hs.grow _).at 4 rfl)) (fun hHeld => ?_)
          clear hK K
          try simp only [Act.put, List.getElem_toArray, List.getElem_cons_zero, List.getElem_cons_succ, List.setIfInBounds_toArray, List.set_cons_zero, List.set_cons_succ]
          generalize hw : World.alloc W _ = W at hHeld ⊢
          replace hs := hs.alloc2To hw hq3
          clear hw hq3
          refine wpAnyH_ready (rs := [13]) (by kernel_rfl) (by simp) ?_
          refine (AllReadyH.cons (o := _) rfl (fun K hK => ?_) AllReadyH.nil)
          refine step_append_src _ (by rfl) _ _ 25 25 (by rfl) 0 24 i1 (.int .u32 0) 1 4 Try.underlying25 hi1 hy0 hy1 hy2 rfl _ 0 [] (by rfl) hs.head (.slice cA cs.length cc) cs.length (u32s cs) (by rfl) (HC.out.src hs (by simp [u32s]) (by decide) Try.underlying25 cc (u32s_one cs)) (by unfold maxLen; omega) (by omega) (Nat.zero_le _) ?_
          intro v' W hown' hgrow hat
          have hown2 : W.ownsRow 0 24 1 v' cs.length (u32s cs) := by simpa using hown'
          obtain ⟨A5, c5, rfl⟩ := own_form hown2
          replace hs := hs.grown hgrow hown2 hat
          clear hown' hown2 hgrow hat
          try clear hHeld
          refine hK.out _ _ (by (try dsimp only); first | exact tKeep (hs.at 3 rfl) | exact tKeep (hs.at 4 rfl) | exact tKeep ((hs.grow _).at 3 rfl) | exact tKeep ((hs.grow _).at 4 rfl)) (fun hHeld => ?_)
          clear hK K
          try simp only [Act.put, List.getElem_toArray, List.getElem_cons_zero, List.getElem_cons_succ, List.setIfInBounds_toArray, List.set_cons_zero, List.set_cons_succ]
          refine wpAnyH_ready (rs := [17]) (by kernel_rfl) (by simp) ?_
          refine (AllReadyH.cons (o := _) rfl (fun K hK => ?_) AllReadyH.nil)
          replace hs := hs.swap1
          refine step_append_src _ (by rfl) _ _ 22 22 (by rfl) 0 5 i0 (.int .u8 0) 1 1 Try.underlying22 hi hz0 hz1 hz2 rfl _ 0 [] (by rfl) hs.head (.slice pA bs.length pc) bs.length (bvs bs) (by rfl) (HP.out.src hs Try.underlying22 pc) (by unfold maxLen; omega) (by omega) (Nat.zero_le _) ?_
          intro v' W hown' hgrow hat
          have hown2 : W.ownsRow 0 5 1 v' bs.length (bvs bs) := by simpa using hown'
          obtain ⟨A6, c6, rfl⟩ := own_form hown2
          replace hs := (hs.grown hgrow hown2 hat).swap1
          clear hown' hown2 hgrow hat
          try clear hHeld
          refine hK.out _ _ (by (try dsimp only); first | exact tKeep (hs.at 3 rfl) | exact tKeep (hs.at 4 rfl) | exact tKeep ((hs.grow _).at 3 rfl) | exact tKeep ((hs.grow _).at 4 rfl)) (fun hHeld => ?_)
          clear hK K
          try simp only [Act.put, List.getElem_toArray, List.getElem_cons_zero, List.getElem_cons_succ, List.setIfInBounds_toArray, List.set_cons_zero, List.set_cons_succ]
          refine wpAnyH_take (i := 20) (oi := _) (v := ?_) rfl (by kernel_rfl) (by kernel_rfl) (by kernel_rfl) (fun _ _ _ h => h) (Or.inl ⟨by rfl, ?_⟩) (by assumption) ?_
          rotate_left
          · (intro w hSw; (try dsimp only at hSw); go_simp; try with_reducible rfl)
          try simp only [Act.put, List.getElem_toArray, List.getElem_cons_zero, List.getElem_cons_succ, List.setIfInBounds_toArray, List.set_cons_zero, List.set_cons_succ]
          refine wpAnyH_ready (rs := [22]) (by kernel_rfl) (by simp) ?_
          refine (AllReadyH.cons (o := _) rfl (fun K hK => ?_) AllReadyH.nil)
          refine step_store_row (by rfl) 37 _ _ (by rfl) q3 (pfC p (.slice A5 cs.length c5) (.slice none 0 0) (.slice A6 bs.length c6)) (by rfl) (by rfl) 37 _ (hs.at 2 rfl) pkI rfl (by simp [Value.oneCell']) ?_
          replace hs := hs.setR2 (pfC p (.slice A5 cs.length c5) (.slice none 0 0) (.slice A6 bs.length c6))
          try clear hHeld
          refine hK.out _ _ (by (try dsimp only); first | exact tKeep (hs.at 3 rfl) | exact tKeep (hs.at 4 rfl) | exact tKeep ((hs.grow _).at 3 rfl) | exact tKeep ((hs.grow _).at 4 rfl)) (fun hHeld => ?_)
          clear hK K
          try simp only [Act.put, List.getElem_toArray, List.getElem_cons_zero, List.getElem_cons_succ, List.setIfInBounds_toArray, List.set_cons_zero, List.set_cons_succ]
          refine wpAnyH_done (by kernel_rfl) ?_ _
          go_wp2
          go_meet
          exact ⟨q3, rfl, A5, c5, A6, c6, hs.drop.drop⟩
      · skip
        go_simp
        obtain ⟨q3, hq3⟩ : ∃ n, n = W.heap.size := ⟨_, rfl⟩
        rw [← hq3]
        try clear hHeld
        refine hK.out _ _ (by (try dsimp only); first | exact tKeep (hs.at 3 rfl) | exact tKeep (hs.at 4 rfl) | exact tKeep ((hs.grow _).at 3 rfl) | exact tKeep ((hs.grow _).at 4 rfl)) (fun hHeld => ?_)
        clear hK K
        try simp only [Act.put, List.getElem_toArray, List.getElem_cons_zero, List.getElem_cons_succ, List.setIfInBounds_toArray, List.set_cons_zero, List.set_cons_succ]
        generalize hw : World.alloc W _ = W at hHeld ⊢
        replace hs := hs.alloc2To hw hq3
        clear hw hq3
        refine wpAnyH_ready (rs := [13, 14]) (by kernel_rfl) (by simp) ?_
        refine (AllReadyH.cons (o := _) rfl (fun K hK => ?_) (AllReadyH.cons (o := _) rfl (fun K hK => ?_) AllReadyH.nil))
        · skip
          refine step_append_src _ (by rfl) _ _ 25 25 (by rfl) 0 24 i1 (.int .u32 0) 1 4 Try.underlying25 hi1 hy0 hy1 hy2 rfl _ 0 [] (by rfl) hs.head (.slice cA cs.length cc) cs.length (u32s cs) (by rfl) (HC.out.src hs (by simp [u32s]) (by decide) Try.underlying25 cc (u32s_one cs)) (by unfold maxLen; omega) (by omega) (Nat.zero_le _) ?_
          intro v' W hown' hgrow hat
          have hown2 : W.ownsRow 0 24 1 v' cs.length (u32s cs) := by simpa using hown'
          obtain ⟨A5, c5, rfl⟩ := own_form hown2
          replace hs := hs.grown hgrow hown2 hat
          clear hown' hown2 hgrow hat
          try clear hHeld
          refine hK.out _ _ (by (try dsimp only); first | exact tKeep (hs.at 3 rfl) | exact tKeep (hs.at 4 rfl) | exact tKeep ((hs.grow _).at 3 rfl) | exact tKeep ((hs.grow _).at 4 rfl)) (fun hHeld => ?_)
          clear hK K
          try simp only [Act.put, List.getElem_toArray, List.getElem_cons_zero, List.getElem_cons_succ, List.setIfInBounds_toArray, List.set_cons_zero, List.set_cons_succ]
          refine wpAnyH_ready (rs := [14]) (by kernel_rfl) (by simp) ?_
          refine (AllReadyH.cons (o := _) rfl (fun K hK => ?_) AllReadyH.nil)
          go_simp
          try clear hHeld
          refine hK.out _ _ (by (try dsimp only); first | exact tKeep (hs.at 3 rfl) | exact tKeep (hs.at 4 rfl) | exact tKeep ((hs.grow _).at 3 rfl) | exact tKeep ((hs.grow _).at 4 rfl)) (fun hHeld => ?_)
          clear hK K
          try simp only [Act.put, List.getElem_toArray, List.getElem_cons_zero, List.getElem_cons_succ, List.setIfInBounds_toArray, List.set_cons_zero, List.set_cons_succ]
          generalize hw : World.alloc W _ = W at hHeld ⊢
          replace hs := (hs.swap1.drop.lit0To hw).swap1
          clear hw
          refine wpAnyH_ready (rs := [17]) (by kernel_rfl) (by simp) ?_
          refine (AllReadyH.cons (o := _) rfl (fun K hK => ?_) AllReadyH.nil)
          replace hs := hs.swap1
          refine step_append_src _ (by rfl) _ _ 22 22 (by rfl) 0 5 i0 (.int .u8 0) 1 1 Try.underlying22 hi hz0 hz1 hz2 rfl _ 0 [] (by rfl) hs.head (.slice pA bs.length pc) bs.length (bvs bs) (by rfl) (HP.out.src hs Try.underlying22 pc) (by unfold maxLen; omega) (by omega) (Nat.zero_le _) ?_
          intro v' W hown' hgrow hat
          have hown2 : W.ownsRow 0 5 1 v' bs.length (bvs bs) := by simpa using hown'
          obtain ⟨A6, c6, rfl⟩ := own_form hown2
          replace hs := (hs.grown hgrow hown2 hat).swap1
          clear hown' hown2 hgrow hat
          try clear hHeld
          refine hK.out _ _ (by (try dsimp only); first | exact tKeep (hs.at 3 rfl) | exact tKeep (hs.at 4 rfl) | exact tKeep ((hs.grow _).at 3 rfl) | exact tKeep ((hs.grow _).at 4 rfl)) (fun hHeld => ?_)
          clear hK K
          try simp only [Act.put, List.getElem_toArray, List.getElem_cons_zero, List.getElem_cons_succ, List.setIfInBounds_toArray, List.set_cons_zero, List.set_cons_succ]
          refine wpAnyH_take (i := 20) (oi := _) (v := ?_) rfl (by kernel_rfl) (by kernel_rfl) (by kernel_rfl) (fun _ _ _ h => h) (Or.inl ⟨by rfl, ?_⟩) (by assumption) ?_
          rotate_left
          · (intro w hSw; (try dsimp only at hSw); go_simp; try with_reducible rfl)
          try simp only [Act.put, List.getElem_toArray, List.getElem_cons_zero, List.getElem_cons_succ, List.setIfInBounds_toArray, List.set_cons_zero, List.set_cons_succ]
          refine wpAnyH_ready (rs := [22]) (by kernel_rfl) (by simp) ?_
          refine (AllReadyH.cons (o := _) rfl (fun K hK => ?_) AllReadyH.nil)
          refine step_store_row (by rfl) 37 _ _ (by rfl) q3 (pfC p (.slice A5 cs.length c5) (.slice none 0 0) (.slice A6 bs.length c6)) (by rfl) (by rfl) 37 _ (hs.at 2 rfl) pkI rfl (by simp [Value.oneCell']) ?_
          replace hs := hs.setR2 (pfC p (.slice A5 cs.length c5) (.slice none 0 0) (.slice A6 bs.length c6))
          try clear hHeld
          refine hK.out _ _ (by (try dsimp only); first | exact tKeep (hs.at 3 rfl) | exact tKeep (hs.at 4 rfl) | exact tKeep ((hs.grow _).at 3 rfl) | exact tKeep ((hs.grow _).at 4 rfl)) (fun hHeld => ?_)
          clear hK K
          try simp only [Act.put, List.getElem_toArray, List.getElem_cons_zero, List.getElem_cons_succ, List.setIfInBounds_toArray, List.set_cons_zero, List.set_cons_succ]
          refine wpAnyH_done (by kernel_rfl) ?_ _
          go_wp2
          go_meet
          exact ⟨q3, rfl, A5, c5, A6, c6, hs.drop.drop⟩
        · skip
          go_simp
          try clear hHeld
          refine hK.out _ _ (by (try dsimp only); first | exact tKeep (hs.at 3 rfl) | exact tKeep (hs.at 4 rfl) | exact tKeep ((hs.grow _).at 3 rfl) | exact tKeep ((hs.grow _).at 4 rfl)) (fun hHeld => ?_)
          clear hK K
          try simp only [Act.put, List.getElem_toArray, List.getElem_cons_zero, List.getElem_cons_succ, List.setIfInBounds_toArray, List.set_cons_zero, List.set_cons_succ]
          generalize hw : World.alloc W _ = W at hHeld ⊢
          replace hs := (hs.swap1.drop.lit0To hw).swap1
          clear hw
          refine wpAnyH_ready (rs := [13]) (by kernel_rfl) (by simp) ?_
          refine (AllReadyH.cons (o := _) rfl (fun K hK => ?_) AllReadyH.nil)
          refine step_append_src _ (by rfl) _ _ 25 25 (by rfl) 0 24 i1 (.int .u32 0) 1 4 Try.underlying25 hi1 hy0 hy1 hy2 rfl _ 0 [] (by rfl) hs.head (.slice cA cs.length cc) cs.length (u32s cs) (by rfl) (HC.out.src hs (by simp [u32s]) (by decide) Try.underlying25 cc (u32s_one cs)) (by unfold maxLen; omega) (by omega) (Nat.zero_le _) ?_
          intro v' W hown' hgrow hat
          have hown2 : W.ownsRow 0 24 1 v' cs.length (u32s cs) := by simpa using hown'
          obtain ⟨A5, c5, rfl⟩ := own_form hown2
          replace hs := hs.grown hgrow hown2 hat
          clear hown' hown2 hgrow hat
          try clear hHeld
          refine hK.out _ _ (by (try dsimp only); first | exact tKeep (hs.at 3 rfl) | exact tKeep (hs.at 4 rfl) | exact tKeep ((hs.grow _).at 3 rfl) | exact tKeep ((hs.grow _).at 4 rfl)) (fun hHeld => ?_)
          clear hK K
          try simp only [Act.put, List.getElem_toArray, List.getElem_cons_zero, List.getElem_cons_succ, List.setIfInBounds_toArray, List.set_cons_zero, List.set_cons_succ]
          refine wpAnyH_ready (rs := [17]) (by kernel_rfl) (by simp) ?_
          refine (AllReadyH.cons (o := _) rfl (fun K hK => ?_) AllReadyH.nil)
          replace hs := hs.swap1
          refine step_append_src _ (by rfl) _ _ 22 22 (by rfl) 0 5 i0 (.int .u8 0) 1 1 Try.underlying22 hi hz0 hz1 hz2 rfl _ 0 [] (by rfl) hs.head (.slice pA bs.length pc) bs.length (bvs bs) (by rfl) (HP.out.src hs Try.underlying22 pc) (by unfold maxLen; omega) (by omega) (Nat.zero_le _) ?_
          intro v' W hown' hgrow hat
          have hown2 : W.ownsRow 0 5 1 v' bs.length (bvs bs) := by simpa using hown'
          obtain ⟨A6, c6, rfl⟩ := own_form hown2
          replace hs := (hs.grown hgrow hown2 hat).swap1
          clear hown' hown2 hgrow hat
          try clear hHeld
          refine hK.out _ _ (by (try dsimp only); first | exact tKeep (hs.at 3 rfl) | exact tKeep (hs.at 4 rfl) | exact tKeep ((hs.grow _).at 3 rfl) | exact tKeep ((hs.grow _).at 4 rfl)) (fun hHeld => ?_)
          clear hK K
          try simp only [Act.put, List.getElem_toArray, List.getElem_cons_zero, List.getElem_cons_succ, List.setIfInBounds_toArray, List.set_cons_zero, List.set_cons_succ]
          refine wpAnyH_take (i := 20) (oi := _) (v := ?_) rfl (by kernel_rfl) (by kernel_rfl) (by kernel_rfl) (fun _ _ _ h => h) (Or.inl ⟨by rfl, ?_⟩) (by assumption) ?_
          rotate_left
          · (intro w hSw; (try dsimp only at hSw); go_simp; try with_reducible rfl)
          try simp only [Act.put, List.getElem_toArray, List.getElem_cons_zero, List.getElem_cons_succ, List.setIfInBounds_toArray, List.set_cons_zero, List.set_cons_succ]
          refine wpAnyH_ready (rs := [22]) (by kernel_rfl) (by simp) ?_
          refine (AllReadyH.cons (o := _) rfl (fun K hK => ?_) AllReadyH.nil)
          refine step_store_row (by rfl) 37 _ _ (by rfl) q3 (pfC p (.slice A5 cs.length c5) (.slice none 0 0) (.slice A6 bs.length c6)) (by rfl) (by rfl) 37 _ (hs.at 2 rfl) pkI rfl (by simp [Value.oneCell']) ?_
          replace hs := hs.setR2 (pfC p (.slice A5 cs.length c5) (.slice none 0 0) (.slice A6 bs.length c6))
          try clear hHeld
          refine hK.out _ _ (by (try dsimp only); first | exact tKeep (hs.at 3 rfl) | exact tKeep (hs.at 4 rfl) | exact tKeep ((hs.grow _).at 3 rfl) | exact tKeep ((hs.grow _).at 4 rfl)) (fun hHeld => ?_)
          clear hK K
          try simp only [Act.put, List.getElem_toArray, List.getElem_cons_zero, List.getElem_cons_succ, List.setIfInBounds_toArray, List.set_cons_zero, List.set_cons_succ]
          refine wpAnyH_done (by kernel_rfl) ?_ _
          go_wp2
          go_meet
          exact ⟨q3, rfl, A5, c5, A6, c6, hs.drop.drop⟩
    · skip
      go_simp
      try clear hHeld
      refine hK.out _ _ (by (try dsimp only); first | exact tKeep (hs.at 3 rfl) | exact tKeep (hs.at 4 rfl) | exact tKeep ((hs.grow _).at 3 rfl) | exact tKeep ((hs.grow _).at 4 rfl)) (fun hHeld => ?_)
      clear hK K
      try simp only [Act.put, List.getElem_toArray, List.getElem_cons_zero, List.getElem_cons_succ, List.setIfInBounds_toArray, List.set_cons_zero, List.set_cons_succ]
      generalize hw : World.alloc W _ = W at hHeld ⊢
      replace hs := (hs.swap1.drop.lit0To hw).swap1
      clear hw
      refine wpAnyH_ready (rs := [10, 21]) (by kernel_rfl) (by simp) ?_
      refine (AllReadyH.cons (o := _) rfl (fun K hK => ?_) (AllReadyH.cons (o := _) rfl (fun K hK => ?_) AllReadyH.nil))
      · skip
        go_simp
        try clear hHeld
        refine hK.out _ _ (by (try dsimp only); first | exact tKeep (hs.at 3 rfl) | exact tKeep (hs.at 4 rfl) | exact tKeep ((hs.grow _).at 3 rfl) | exact tKeep ((hs.grow _).at 4 rfl)) (fun hHeld => ?_)
        clear hK K
        try simp only [Act.put, List.getElem_toArray, List.getElem_cons_zero, List.getElem_cons_succ, List.setIfInBounds_toArray, List.set_cons_zero, List.set_cons_succ]
        generalize hw : World.alloc W _ = W at hHeld ⊢
        replace hs := hs.drop.lit0To hw
        clear hw
        refine wpAnyH_ready (rs := [13, 21]) (by kernel_rfl) (by simp) ?_
        refine (AllReadyH.cons (o := _) rfl (fun K hK => ?_) (AllReadyH.cons (o := _) rfl (fun K hK => ?_) AllReadyH.nil))
        · skip
          refine step_append_src _ (by rfl) _ _ 25 25 (by rfl) 0 24 i1 (.int .u32 0) 1 4 Try.underlying25 hi1 hy0 hy1 hy2 rfl _ 0 [] (by rfl) hs.head (.slice cA cs.length cc) cs.length (u32s cs) (by rfl) (HC.out.src hs (by simp [u32s]) (by decide) Try.underlying25 cc (u32s_one cs)) (by unfold maxLen; omega) (by omega) (Nat.zero_le _) ?_
          intro v' W hown' hgrow hat
          have hown2 : W.ownsRow 0 24 1 v' cs.length (u32s cs) := by simpa using hown'
          obtain ⟨A5, c5, rfl⟩ := own_form hown2
          replace hs := hs.grown hgrow hown2 hat
          clear hown' hown2 hgrow hat
          try clear hHeld
          refine hK.out _ _ (by (try dsimp only); first | exact tKeep (hs.at 3 rfl) | exact tKeep (hs.at 4 rfl) | exact tKeep ((hs.grow _).at 3 rfl) | exact tKeep ((hs.grow _).at 4 rfl)) (fun hHeld => ?_)
          clear hK K
          try simp only [Act.put, List.getElem_toArray, List.getElem_cons_zero, List.getElem_cons_succ, List.setIfInBounds_toArray, List.set_cons_zero, List.set_cons_succ]
          refine wpAnyH_ready (rs := [17, 21]) (by kernel_rfl) (by simp) ?_
          refine (AllReadyH.cons (o := _) rfl (fun K hK => ?_) (AllReadyH.cons (o := _) rfl (fun K hK => ?_) AllReadyH.nil))
          · skip
            replace hs := hs.swap1
            refine step_append_src _ (by rfl) _ _ 22 22 (by rfl) 0 5 i0 (.int .u8 0) 1 1 Try.underlying22 hi hz0 hz1 hz2 rfl _ 0 [] (by rfl) hs.head (.slice pA bs.length pc) bs.length (bvs bs) (by rfl) (HP.out.src hs Try.underlying22 pc) (by unfold maxLen; omega) (by omega) (Nat.zero_le _) ?_
            intro v' W hown' hgrow hat
            have hown2 : W.ownsRow 0 5 1 v' bs.length (bvs bs) := by simpa using hown'
            obtain ⟨A6, c6, rfl⟩ := own_form hown2
            replace hs := (hs.grown hgrow hown2 hat).swap1
            clear hown' hown2 hgrow hat
            try clear hHeld
            refine hK.out _ _ (by (try dsimp only); first | exact tKeep (hs.at 3 rfl) | exact tKeep (hs.at 4 rfl) | exact tKeep ((hs.grow _).at 3 rfl) | exact tKeep ((hs.grow _).at 4 rfl)) (fun hHeld => ?_)
            clear hK K
            try simp only [Act.put, List.getElem_toArray, List.getElem_cons_zero, List.getElem_cons_succ, List.setIfInBounds_toArray, List.set_cons_zero, List.set_cons_succ]
            refine wpAnyH_take (i := 20) (oi := _) (v := ?_) rfl (by kernel_rfl) (by kernel_rfl) (by kernel_rfl) (fun _ _ _ h => h) (Or.inl ⟨by rfl, ?_⟩) (by assumption) ?_
            rotate_left
            · (intro w hSw; (try dsimp only at hSw); go_simp; try with_reducible rfl)
            try simp only [Act.put, List.getElem_toArray, List.getElem_cons_zero, List.getElem_cons_succ, List.setIfInBounds_toArray, List.set_cons_zero, List.set_cons_succ]
            refine wpAnyH_ready (rs := [21]) (by kernel_rfl) (by simp) ?_
            refine (AllReadyH.cons (o := _) rfl (fun K hK => ?_) AllReadyH.nil)
            go_simp
            obtain ⟨q3, hq3⟩ : ∃ n, n = W.heap.size := ⟨_, rfl⟩
            rw [← hq3]
            try clear hHeld
            refine hK.out _ _ (by (try dsimp only); first | exact tKeep (hs.at 3 rfl) | exact tKeep (hs.at 4 rfl) | exact tKeep ((hs.grow _).at 3 rfl) | exact tKeep ((hs.grow _).at 4 rfl)) (fun hHeld => ?_)
            clear hK K
            try simp only [Act.put, List.getElem_toArray, List.getElem_cons_zero, List.getElem_cons_succ, List.setIfInBounds_toArray, List.set_cons_zero, List.set_cons_succ]
            generalize hw : World.alloc W _ = W at hHeld ⊢
            replace hs := hs.alloc2To hw hq3
            clear hw hq3
            refine wpAnyH_ready (rs := [22]) (by kernel_rfl) (by simp) ?_
            refine (AllReadyH.cons (o := _) rfl (fun K hK => ?_) AllReadyH.nil)
            refine step_store_row (by rfl) 37 _ _ (by rfl) q3 (pfC p (.slice A5 cs.length c5) (.slice none 0 0) (.slice A6 bs.length c6)) (by rfl) (by rfl) 37 _ (hs.at 2 rfl) pkI rfl (by simp [Value.oneCell']) ?_
            replace hs := hs.setR2 (pfC p (.slice A5 cs.length c5) (.slice none 0 0) (.slice A6 bs.length c6))
            try clear hHeld
            refine hK.out _ _ (by (try dsimp only); first | exact tKeep (hs.at 3 rfl) | exact tKeep (hs.at 4 rfl) | exact tKeep ((hs.grow _).at 3 rfl) | exact tKeep ((hs.grow _).at 4 rfl)) (fun hHeld => ?_)
            clear hK K
            try simp only [Act.put, List.getElem_toArray, List.getElem_cons_zero, List.getElem_cons_succ, List.setIfInBounds_toArray, List.set_cons_zero, List.set_cons_succ]
            refine wpAnyH_done (by kernel_rfl) ?_ _
            go_wp2
            go_meet
            exact ⟨q3, rfl, A5, c5, A6, c6, hs.drop.drop⟩
          · skip
            go_simp
            obtain ⟨q3, hq3⟩ : ∃ n, n = W.heap.size := ⟨_, rfl⟩
            rw [← hq3]
            try clear hHeld
            refine hK.out _ _ (by (try dsimp only); first | exact tKeep (hs.at 3 rfl) | exact tKeep (hs.at 4 rfl) | exact tKeep ((hs.grow _).at 3 rfl) | exact tKeep ((hs.grow _).at 4 rfl)) (fun hHeld => ?_)
            clear hK K
            try simp only [Act.put, List.getElem_toArray, List.getElem_cons_zero, List.getElem_cons_succ, List.setIfInBounds_toArray, List.set_cons_zero, List.set_cons_succ]
            generalize hw : World.alloc W _ = W at hHeld ⊢
            replace hs := hs.alloc2To hw hq3
            clear hw hq3
            refine wpAnyH_ready (rs := [17]) (by kernel_rfl) (by simp) ?_
            refine (AllReadyH.cons (o := _) rfl (fun K hK => ?_) AllReadyH.nil)
            replace hs := hs.swap1
            refine step_append_src _ (by rfl) _ _ 22 22 (by rfl) 0 5 i0 (.int .u8 0) 1 1 Try.underlying22 hi hz0 hz1 hz2 rfl _ 0 [] (by rfl) hs.head (.slice pA bs.length pc) bs.length (bvs bs) (by rfl) (HP.out.src hs Try.underlying22 pc) (by unfold maxLen; omega) (by omega) (Nat.zero_le _) ?_
            intro v' W hown' hgrow hat
            have hown2 : W.ownsRow 0 5 1 v' bs.length (bvs bs) := by simpa using hown'
            obtain ⟨A6, c6, rfl⟩ := own_form hown2
            replace hs := (hs.grown hgrow hown2 hat).swap1
            clear hown' hown2 hgrow hat
            try clear hHeld
            refine hK.out _ _ (by (try dsimp only); first | exact tKeep (hs.at 3 rfl) | exact tKeep (hs.at 4 rfl) | exact tKeep ((hs.grow _).at 3 rfl) | exact tKeep ((hs.grow _).at 4 rfl)) (fun hHeld => ?_)
            clear hK K
            try simp only [Act.put, List.getElem_toArray, List.getElem_cons_zero, List.getElem_cons_succ, List.setIfInBounds_toArray, List.set_cons_zero, List.set_cons_succ]
            refine wpAnyH_take (i := 20) (oi := _) (v := ?_) rfl (by kernel_rfl) (by kernel_rfl) (by kernel_rfl) (fun _ _ _ h => h) (Or.inl ⟨by rfl, ?_⟩) (by assumption) ?_
            rotate_left
            · (intro w hSw; (try dsimp only at hSw); go_simp; try with_reducible rfl)
            try simp only [Act.put, List.getElem_toArray, List.getElem_cons_zero, List.getElem_cons_succ, List.setIfInBounds_toArray, List.set_cons_zero, List.set_cons_succ]
            refine wpAnyH_ready (rs := [22]) (by kernel_rfl) (by simp) ?_
            refine (AllReadyH.cons (o := _) rfl (fun K hK => ?_) AllReadyH.nil)
            refine step_store_row (by rfl) 37 _ _ (by rfl) q3 (pfC p (.slice A5 cs.length c5) (.slice none 0 0) (.slice A6 bs.length c6)) (by rfl) (by rfl) 37 _ (hs.at 2 rfl) pkI rfl (by simp [Value.oneCell']) ?_
            replace hs := hs.setR2 (pfC p (.slice A5 cs.length c5) (.slice none 0 0) (.slice A6 bs.length c6))
            try clear hHeld
            refine hK.out _ _ (by (try dsimp only); first | exact tKeep (hs.at 3 rfl) | exact tKeep (hs.at 4 rfl) | exact tKeep ((hs.grow _).at 3 rfl) | exact tKeep ((hs.grow _).at 4 rfl)) (fun hHeld => ?_)
            clear hK K
            try simp only [Act.put, List.getElem_toArray, List.getElem_cons_zero, List.getElem_cons_succ, List.setIfInBounds_toArray, List.set_cons_zero, List.set_cons_succ]
            refine wpAnyH_done (by kernel_rfl) ?_ _
            go_wp2
            go_meet
            exact ⟨q3, rfl, A5, c5, A6, c6, hs.drop.drop⟩
        · skip
          go_simp
          obtain ⟨q3, hq3⟩ : ∃ n, n = W.heap.size := ⟨_, rfl⟩
          rw [← hq3]
          try clear hHeld
          refine hK.out _ _ (by (try dsimp only); first | exact tKeep (hs.at 3 rfl) | exact tKeep (hs.at 4 rfl) | exact tKeep ((hs.grow _).at 3 rfl) | exact tKeep ((hs.grow _).at 4 rfl)) (fun hHeld => ?_)
          clear hK K
          try simp only [Act.put, List.getElem_toArray, List.getElem_cons_zero, List.getElem_cons_succ, List.setIfInBounds_toArray, List.set_cons_zero, List.set_cons_succ]
          generalize hw : World.alloc W _ = W at hHeld ⊢
          replace hs := hs.alloc2To hw hq3
          clear hw hq3
          refine wpAnyH_ready (rs := [13]) (by kernel_rfl) (by simp) ?_
          refine (AllReadyH.cons (o := _) rfl (fun K hK => ?_) AllReadyH.nil)
          refine step_append_src _ (by rfl) _ _ 25 25 (by rfl) 0 24 i1 (.int .u32 0) 1 4 Try.underlying25 hi1 hy0 hy1 hy2 rfl _ 0 [] (by rfl) hs.head (.slice cA cs.length cc) cs.length (u32s cs) (by rfl) (HC.out.src hs (by simp [u32s]) (by decide) Try.underlying25 cc (u32s_one cs)) (by unfold maxLen; omega) (by omega) (Nat.zero_le _) ?_
          intro v' W hown' hgrow hat
          have hown2 : W.ownsRow 0 24 1 v' cs.length (u32s cs) := by simpa using hown'
          obtain ⟨A5, c5, rfl⟩ := own_form hown2
          replace hs := hs.grown hgrow hown2 hat
          clear hown' hown2 hgrow hat
          try clear hHeld
          refine hK.out _ _ (by (try dsimp only); first | exact tKeep (hs.at 3 rfl) | exact tKeep (hs.at 4 rfl) | exact tKeep ((hs.grow _).at 3 rfl) | exact tKeep ((hs.grow _).at 4 rfl)) (fun hHeld => ?_)
          clear hK K
          try simp only [Act.put, List.getElem_toArray, List.getElem_cons_zero, List.getElem_cons_succ, List.setIfInBounds_toArray, List.set_cons_zero, List.set_cons_succ]
          refine wpAnyH_ready (rs := [17]) (by kernel_rfl) (by simp) ?_
          refine (AllReadyH.cons (o := _) rfl (fun K hK => ?_) AllReadyH.nil)
          replace hs := hs.swap1
          refine step_append_src _ (by rfl) _ _ 22 22 (by rfl) 0 5 i0 (.int .u8 0) 1 1 Try.underlying22 hi hz0 hz1 hz2 rfl _ 0 [] (by rfl) hs.head (.slice pA bs.length pc) bs.length (bvs bs) (by rfl) (HP.out.src hs Try.underlying22 pc) (by unfold maxLen; omega) (by omega) (Nat.zero_le _) ?_
          intro v' W hown' hgrow hat
          have hown2 : W.ownsRow 0 5 1 v' bs.length (bvs bs) := by simpa using hown'
          obtain ⟨A6, c6, rfl⟩ := own_form hown2
          replace hs := (hs.grown hgrow hown2 hat).swap1
          clear hown' hown2 hgrow hat
          try clear hHeld
          refine hK.out _ _ (by (try dsimp only); first | exact tKeep (hs.at 3 rfl) | exact tKeep (hs.at 4 rfl) | exact tKeep ((hs.grow _).at 3 rfl) | exact tKeep ((hs.grow _).at 4 rfl)) (fun hHeld => ?_)
          clear hK K
          try simp only [Act.put, List.getElem_toArray, List.getElem_cons_zero, List.getElem_cons_succ, List.setIfInBounds_toArray, List.set_cons_zero, List.set_cons_succ]
          refine wpAnyH_take (i := 20) (oi := _) (v := ?_) rfl (by kernel_rfl) (by kernel_rfl) (by kernel_rfl) (fun _ _ _ h => h) (Or.inl ⟨by rfl, ?_⟩) (by assumption) ?_
          rotate_left
          · (intro w hSw; (try dsimp only at hSw); go_simp; try with_reducible rfl)
          try simp only [Act.put, List.getElem_toArray, List.getElem_cons_zero, List.getElem_cons_succ, List.setIfInBounds_toArray, List.set_cons_zero, List.set_cons_succ]
          refine wpAnyH_ready (rs := [22]) (by kernel_rfl) (by simp) ?_
          refine (AllReadyH.cons (o := _) rfl (fun K hK => ?_) AllReadyH.nil)
          refine step_store_row (by rfl) 37 _ _ (by rfl) q3 (pfC p (.slice A5 cs.length c5) (.slice none 0 0) (.slice A6 bs.length c6)) (by rfl) (by rfl) 37 _ (hs.at 2 rfl) pkI rfl (by simp [Value.oneCell']) ?_
          replace hs := hs.setR2 (pfC p (.slice A5 cs.length c5) (.slice none 0 0) (.slice A6 bs.length c6))
          try clear hHeld
          refine hK.out _ _ (by (try dsimp only); first | exact tKeep (hs.at 3 rfl) | exact tKeep (hs.at 4 rfl) | exact tKeep ((hs.grow _).at 3 rfl) | exact tKeep ((hs.grow _).at 4 rfl)) (fun hHeld => ?_)
          clear hK K
          try simp only [Act.put, List.getElem_toArray, List.getElem_cons_zero, List.getElem_cons_succ, List.setIfInBounds_toArray, List.set_cons_zero, List.set_cons_succ]
          refine wpAnyH_done (by kernel_rfl) ?_ _
          go_wp2
          go_meet
          exact ⟨q3, rfl, A5, c5, A6, c6, hs.drop.drop⟩
      · skip
        go_simp
        obtain ⟨q3, hq3⟩ : ∃ n, n = W.heap.size := ⟨_, rfl⟩
        rw [← hq3]
        try clear hHeld
        refine hK.out _ _ (by (try dsimp only); first | exact tKeep (hs.at 3 rfl) | exact tKeep (hs.at 4 rfl) | exact tKeep ((hs.grow _).at 3 rfl) | exact tKeep ((hs.grow _).at 4 rfl)) (fun hHeld => ?_)
        clear hK K
        try simp only [Act.put, List.getElem_toArray, List.getElem_cons_zero, List.getElem_cons_succ, List.setIfInBounds_toArray, List.set_cons_zero, List.set_cons_succ]
        generalize hw : World.alloc W _ = W at hHeld ⊢
        replace hs := hs.alloc2To hw hq3
        clear hw hq3
        refine wpAnyH_ready (rs := [10]) (by kernel_rfl) (by simp) ?_
        refine (AllReadyH.cons (o := _) rfl (fun K hK => ?_) AllReadyH.nil)
        go_simp
        try clear hHeld
        refine hK.out _ _ (by (try dsimp only); first | exact tKeep (hs.at 3 rfl) | exact tKeep (hs.at 4 rfl) | exact tKeep ((hs.grow _).at 3 rfl) | exact tKeep ((hs.grow _).at 4 rfl)) (fun hHeld => ?_)
        clear hK K
        try simp only [Act.put, List.getElem_toArray, List.getElem_cons_zero, List.getElem_cons_succ, List.setIfInBounds_toArray, List.set_cons_zero, List.set_cons_succ]
        generalize hw : World.alloc W _ = W at hHeld ⊢
        replace hs := hs.drop.lit0To hw
        clear hw
        refine wpAnyH_ready (rs := [13]) (by kernel_rfl) (by simp) ?_
        refine (AllReadyH.cons (o := _) rfl (fun K hK => ?_) AllReadyH.nil)
        refine step_append_src _ (by rfl) _ _ 25 25 (by rfl) 0 24 i1 (.int .u32 0) 1 4 Try.underlying25 hi1 hy0 hy1 hy2 rfl _ 0 [] (by rfl) hs.head (.slice cA cs.length cc) cs.length (u32s cs) (by rfl) (HC.out.src hs (by simp [u32s]) (by decide) Try.underlying25 cc (u32s_one cs)) (by unfold maxLen; omega) (by omega) (Nat.zero_le _) ?_
        intro v' W hown' hgrow hat
        have hown2 : W.ownsRow 0 24 1 v' cs.length (u32s cs) := by simpa using hown'
        obtain ⟨A5, c5, rfl⟩ := own_form hown2
        replace hs := hs.grown hgrow hown2 hat
        clear hown' hown2 hgrow hat
        try clear hHeld
        refine hK.out _ _ (by (try dsimp only); first | exact tKeep (hs.at 3 rfl) | exact tKeep (hs.at 4 rfl) | exact tKeep ((hs.grow _).at 3 rfl) | exact tKeep ((hs.grow _).at 4 rfl)) (fun hHeld => ?_)
        clear hK K
        try simp only [Act.put, List.getElem_toArray, List.getElem_cons_zero, List.getElem_cons_succ, List.setIfInBounds_toArray, List.set_cons_zero, List.set_cons_succ]
        refine wpAnyH_ready (rs := [17]) (by kernel_rfl) (by simp) ?_
        refine (AllReadyH.cons (o := _) rfl (fun K hK => ?_) AllReadyH.nil)
        replace hs := hs.swap1
        refine step_append_src _ (by rfl) _ _ 22 22 (by rfl) 0 5 i0 (.int .u8 0) 1 1 Try.underlying22 hi hz0 hz1 hz2 rfl _ 0 [] (by rfl) hs.head (.slice pA bs.length pc) bs.length (bvs bs) (by rfl) (HP.out.src hs Try.underlying22 pc) (by unfold maxLen; omega) (by omega) (Nat.zero_le _) ?_
        intro v' W hown' hgrow hat
        have hown2 : W.ownsRow 0 5 1 v' bs.length (bvs bs) := by simpa using hown'
        obtain ⟨A6, c6, rfl⟩ := own_form hown2
        replace hs := (hs.grown hgrow hown2 hat).swap1
        clear hown' hown2 hgrow hat
        try clear hHeld
        refine hK.out _ _ (by (try dsimp only); first | exact tKeep (hs.at 3 rfl) | exact tKeep (hs.at 4 rfl) | exact tKeep ((hs.grow _).at 3 rfl) | exact tKeep ((hs.grow _).at 4 rfl)) (fun hHeld => ?_)
        clear hK K
        try simp only [Act.put, List.getElem_toArray, List.getElem_cons_zero, List.getElem_cons_succ, List.setIfInBounds_toArray, List.set_cons_zero, List.set_cons_succ]
        refine wpAnyH_take (i := 20) (oi := _) (v := ?_) rfl (by kernel_rfl) (by kernel_rfl) (by kernel_rfl) (fun _ _ _ h => h) (Or.inl ⟨by rfl, ?_⟩) (by assumption) ?_
        rotate_left
        · (intro w hSw; (try dsimp only at hSw); go_simp; try with_reducible rfl)
        try simp only [Act.put, List.getElem_toArray, List.getElem_cons_zero, List.getElem_cons_succ, List.setIfInBounds_toArray, List.set_cons_zero, List.set_cons_succ]
        refine wpAnyH_ready (rs := [22]) (by kernel_rfl) (by simp) ?_
        refine (AllReadyH.cons (o := _) rfl (fun K hK => ?_) AllReadyH.nil)
        refine step_store_row (by rfl) 37 _ _ (by rfl) q3 (pfC p (.slice A5 cs.length c5) (.slice none 0 0) (.slice A6 bs.length c6)) (by rfl) (by rfl) 37 _ (hs.at 2 rfl) pkI rfl (by simp [Value.oneCell']) ?_
        replace hs := hs.setR2 (pfC p (.slice A5 cs.length c5) (.slice none 0 0) (.slice A6 bs.length c6))
        try clear hHeld
        refine hK.out _ _ (by (try dsimp only); first | exact tKeep (hs.at 3 rfl) | exact tKeep (hs.at 4 rfl) | exact tKeep ((hs.grow _).at 3 rfl) | exact tKeep ((hs.grow _).at 4 rfl)) (fun hHeld => ?_)
        clear hK K
        try simp only [Act.put, List.getElem_toArray, List.getElem_cons_zero, List.getElem_cons_succ, List.setIfInBounds_toArray, List.set_cons_zero, List.set_cons_succ]
        refine wpAnyH_done (by kernel_rfl) ?_ _
        go_wp2
        go_meet
        exact ⟨q3, rfl, A5, c5, A6, c6, hs.drop.drop⟩
    · skip
      go_simp
      obtain ⟨q3, hq3⟩ : ∃ n, n = W.heap.size := ⟨_, rfl⟩
      rw [← hq3]
      try clear hHeld
      refine hK.out _ _ (by (try dsimp only); first | exact tKeep (hs.at 3 rfl) | exact tKeep (hs.at 4 rfl) | exact tKeep ((hs.grow _).at 3 rfl) | exact tKeep ((hs.grow _).at 4 rfl)) (fun hHeld => ?_)
      clear hK K
      try simp only [Act.put, List.getElem_toArray, List.getElem_cons_zero, List.getElem_cons_succ, List.setIfInBounds_toArray, List.set_cons_zero, List.set_cons_succ]
      generalize hw : World.alloc W _ = W at hHeld ⊢
      replace hs := hs.alloc2To hw hq3
      clear hw hq3
      refine wpAnyH_ready (rs := [10, 14]) (by kernel_rfl) (by simp) ?_
      refine (AllReadyH.cons (o := _) rfl (fun K hK => ?_) (AllReadyH.cons (o := _) rfl (fun K hK => ?_) AllReadyH.nil))
      · skip
        go_simp
        try clear hHeld
        refine hK.out _ _ (by (try dsimp only); first | exact tKeep (hs.at 3 rfl) | exact tKeep (hs.at 4 rfl) | exact tKeep ((hs.grow _).at 3 rfl) | exact tKeep ((hs.grow _).at 4 rfl)) (fun hHeld => ?_)
        clear hK K
        try simp only [Act.put, List.getElem_toArray, List.getElem_cons_zero, List.getElem_cons_succ, List.setIfInBounds_toArray, List.set_cons_zero, List.set_cons_succ]
        generalize hw : World.alloc W _ = W at hHeld ⊢
        replace hs := hs.drop.lit0To hw
        clear hw
        refine wpAnyH_ready (rs := [13, 14]) (by kernel_rfl) (by simp) ?_
        refine (AllReadyH.cons (o := _) rfl (fun K hK => ?_) (AllReadyH.cons (o := _) rfl (fun K hK => ?_) AllReadyH.nil))
        · skip
          refine step_append_src _ (by rfl) _ _ 25 25 (by rfl) 0 24 i1 (.int .u32 0) 1 4 Try.underlying25 hi1 hy0 hy1 hy2 rfl _ 0 [] (by rfl) hs.head (.slice cA cs.length cc) cs.length (u32s cs) (by rfl) (HC.out.src hs (by simp [u32s]) (by decide) Try.underlying25 cc (u32s_one cs)) (by unfold maxLen; omega) (by omega) (Nat.zero_le _) ?_
          intro v' W hown' hgrow hat
          have hown2 : W.ownsRow 0 24 1 v' cs.length (u32s cs) := by simpa using hown'
          obtain ⟨A5, c5, rfl⟩ := own_form hown2
          replace hs := hs.grown hgrow hown2 hat
          clear hown' hown2 hgrow hat
          try clear hHeld
          refine hK.out _ _ (by (try dsimp only); first | exact tKeep (hs.at 3 rfl) | exact tKeep (hs.at 4 rfl) | exact tKeep ((hs.grow _).at 3 rfl) | exact tKeep ((hs.grow _).at 4 rfl)) (fun hHeld => ?_)
          clear hK K
          try simp only [Act.put, List.getElem_toArray, List.getElem_cons_zero, List.getElem_cons_succ, List.setIfInBounds_toArray, List.set_cons_zero, List.set_cons_succ]
          refine wpAnyH_ready (rs := [14]) (by kernel_rfl) (by simp) ?_
          refine (AllReadyH.cons (o := _) rfl (fun K hK => ?_) AllReadyH.nil)
          go_simp
          try clear hHeld
          refine hK.out _ _ (by (try dsimp only); first | exact tKeep (hs.at 3 rfl) | exact tKeep (hs.at 4 rfl) | exact tKeep ((hs.grow _).at 3 rfl) | exact tKeep ((hs.grow _).at 4 rfl)) (fun hHeld => ?_)
          clear hK K
          try simp only [Act.put, List.getElem_toArray, List.getElem_cons_zero, List.getElem_cons_succ, List.setIfInBounds_toArray, List.set_cons_zero, List.set_cons_succ]
          generalize hw : World.alloc W _ = W at hHeld ⊢
          replace hs := (hs.swap1.drop.lit0To hw).swap1
          clear hw
          refine wpAnyH_ready (rs := [17]) (by kernel_rfl) (by simp) ?_
          refine (AllReadyH.cons (o := _) rfl (fun K hK => ?_) AllReadyH.nil)
          replace hs := hs.swap1
          refine step_append_src _ (by rfl) _ _ 22 22 (by rfl) 0 5 i0 (.int .u8 0) 1 1 Try.underlying22 hi hz0 hz1 hz2 rfl _ 0 [] (by rfl) hs.head (.slice pA bs.length pc) bs.length (bvs bs) (by rfl) (HP.out.src hs Try.underlying22 pc) (by unfold maxLen; omega) (by omega) (Nat.zero_le _) ?_
          intro v' W hown' hgrow hat
          have hown2 : W.ownsRow 0 5 1 v' bs.length (bvs bs) := by simpa using hown'
          obtain ⟨A6, c6, rfl⟩ := own_form hown2
          replace hs := (hs.grown hgrow hown2 hat).swap1
          clear hown' hown2 hgrow hat
          try clear hHeld
          refine hK.out _ _ (by (try dsimp only); first | exact tKeep (hs.at 3 rfl) | exact tKeep (hs.at 4 rfl) | exact tKeep ((hs.grow _).at 3 rfl) | exact tKeep ((hs.grow _).at 4 rfl)) (fun hHeld => ?_)
          clear hK K
          try simp only [Act.put, List.getElem_toArray, List.getElem_cons_zero, List.getElem_cons_succ, List.setIfInBounds_toArray, List.set_cons_zero, List.set_cons_succ]
          refine wpAnyH_take (i := 20) (oi := _) (v := ?_) rfl (by kernel_rfl) (by kernel_rfl) (by kernel_rfl) (fun _ _ _ h => h) (Or.inl ⟨by rfl, ?_⟩) (by assumption) ?_
          rotate_left
          · (intro w hSw; (try dsimp only at hSw); go_simp; try with_reducible rfl)
          try simp only [Act.put, List.getElem_toArray, List.getElem_cons_zero, List.getElem_cons_succ, List.setIfInBounds_toArray, List.set_cons_zero, List.set_cons_succ]
          refine wpAnyH_ready (rs := [22]) (by kernel_rfl) (by simp) ?_
          refine (AllReadyH.cons (o := _) rfl (fun K hK => ?_) AllReadyH.nil)
          refine step_store_row (by rfl) 37 _ _ (by rfl) q3 (pfC p (.slice A5 cs.length c5) (.slice none 0 0) (.slice A6 bs.length c6)) (by rfl) (by rfl) 37 _ (hs.at 2 rfl) pkI rfl (by simp [Value.oneCell']) ?_
          replace hs := hs.setR2 (pfC p (.slice A5 cs.length c5) (.slice none 0 0) (.slice A6 bs.length c6))
          try clear hHeld
          refine hK.out _ _ (by (try dsimp only); first | exact tKeep (hs.at 3 rfl) | exact tKeep (hs.at 4 rfl) | exact tKeep ((hs.grow _).at 3 rfl) | exact tKeep ((hs.grow _).at 4 rfl)) (fun hHeld => ?_)
          clear hK K
          try simp only [Act.put, List.getElem_toArray, List.getElem_cons_zero, List.getElem_cons_succ, List.setIfInBounds_toArray, List.set_cons_zero, List.set_cons_succ]
          refine wpAnyH_done (by kernel_rfl) ?_ _
          go_wp2
          go_meet
          exact ⟨q3, rfl, A5, c5, A6, c6, hs.drop.drop⟩
        · skip
          go_simp
          try clear hHeld
          refine hK.out _ _ (by (try dsimp only); first | exact tKeep (hs.at 3 rfl) | exact tKeep (hs.at 4 rfl) | exact tKeep ((hs.grow _).at 3 rfl) | exact tKeep ((hs.grow _).at 4 rfl)) (fun hHeld => ?_)
          clear hK K
          try simp only [Act.put, List.getElem_toArray, List.getElem_cons_zero, List.getElem_cons_succ, List.setIfInBounds_toArray, List.set_cons_zero, List.set_cons_succ]
          generalize hw : World.alloc W _ = W at hHeld ⊢
          replace hs := (hs.swap1.drop.lit0To hw).swap1
          clear hw
          refine wpAnyH_ready (rs := [13]) (by kernel_rfl) (by simp) ?_
          refine (AllReadyH.cons (o := _) rfl (fun K hK => ?_) AllReadyH.nil)
          refine step_append_src _ (by rfl) _ _ 25 25 (by rfl) 0 24 i1 (.int .u32 0) 1 4 Try.underlying25 hi1 hy0 hy1 hy2 rfl _ 0 [] (by rfl) hs.head (.slice cA cs.length cc) cs.length (u32s cs) (by rfl) (HC.out.src hs (by simp [u32s]) (by decide) Try.underlying25 cc (u32s_one cs)) (by unfold maxLen; omega) (by omega) (Nat.zero_le _) ?_
          intro v' W hown' hgrow hat
          have hown2 : W.ownsRow 0 24 1 v' cs.length (u32s cs) := by simpa using hown'
          obtain ⟨A5, c5, rfl⟩ := own_form hown2
          replace hs := hs.grown hgrow hown2 hat
          clear hown' hown2 hgrow hat
          try clear hHeld
          refine hK.out _ _ (by (try dsimp only); first | exact tKeep (hs.at 3 rfl) | exact tKeep (hs.at 4 rfl) | exact tKeep ((hs.grow _).at 3 rfl) | exact tKeep ((hs.grow _).at 4 rfl)) (fun hHeld => ?_)
          clear hK K
          try simp only [Act.put, List.getElem_toArray, List.getElem_cons_zero, List.getElem_cons_succ, List.setIfInBounds_toArray, List.set_cons_zero, List.set_cons_succ]
          refine wpAnyH_ready (rs := [17]) (by kernel_rfl) (by simp) ?_
          refine (AllReadyH.cons (o := _) rfl (fun K hK => ?_) AllReadyH.nil)
          replace hs := hs.swap1
          refine step_append_src _ (by rfl) _ _ 22 22 (by rfl) 0 5 i0 (.int .u8 0) 1 1 Try.underlying22 hi hz0 hz1 hz2 rfl _ 0 [] (by rfl) hs.head (.slice pA bs.length pc) bs.length (bvs bs) (by rfl) (HP.out.src hs Try.underlying22 pc) (by unfold maxLen; omega) (by omega) (Nat.zero_le _) ?_
          intro v' W hown' hgrow hat
          have hown2 : W.ownsRow 0 5 1 v' bs.length (bvs bs) := by simpa using hown'
          obtain ⟨A6, c6, rfl⟩ := own_form hown2
          replace hs := (hs.grown hgrow hown2 hat).swap1
          clear hown' hown2 hgrow hat
          try clear hHeld
          refine hK.out _ _ (by (try dsimp only); first | exact tKeep (hs.at 3 rfl) | exact tKeep (hs.at 4 rfl) | exact tKeep ((hs.grow _).at 3 rfl) | exact tKeep ((hs.grow _).at 4 rfl)) (fun hHeld => ?_)
          clear hK K
          try simp only [Act.put, List.getElem_toArray, List.getElem_cons_zero, List.getElem_cons_succ, List.setIfInBounds_toArray, List.set_cons_zero, List.set_cons_succ]
          refine wpAnyH_take (i := 20) (oi := _) (v := ?_) rfl (by kernel_rfl) (by kernel_rfl) (by kernel_rfl) (fun _ _ _ h => h) (Or.inl ⟨by rfl, ?_⟩) (by assumption) ?_
          rotate_left
          · (intro w hSw; (try dsimp only at hSw); go_simp; try with_reducible rfl)
          try simp only [Act.put, List.getElem_toArray, List.getElem_cons_zero, List.getElem_cons_succ, List.setIfInBounds_toArray, List.set_cons_zero, List.set_cons_succ]
          refine wpAnyH_ready (rs := [22]) (by kernel_rfl) (by simp) ?_
          refine (AllReadyH.cons (o := _) rfl (fun K hK => ?_) AllReadyH.nil)
          refine step_store_row (by rfl) 37 _ _ (by rfl) q3 (pfC p (.slice A5 cs.length c5) (.slice none 0 0) (.slice A6 bs.length c6)) (by rfl) (by rfl) 37 _ (hs.at 2 rfl) pkI rfl (by simp [Value.oneCell']) ?_
          replace hs := hs.setR2 (pfC p (.slice A5 cs.length c5) (.slice none 0 0) (.slice A6 bs.length c6))
          try clear hHeld
          refine hK.out _ _ (by (try dsimp only); first | exact tKeep (hs.at 3 rfl) | exact tKeep (hs.at 4 rfl) | exact tKeep ((hs.grow _).at 3 rfl) | exact tKeep ((hs.grow _).at 4 rfl)) (fun hHeld => ?_)
          clear hK K
          try simp only [Act.put, List.getElem_toArray, List.getElem_cons_zero, List.getElem_cons_succ, List.setIfInBounds_toArray, List.set_cons_zero, List.set_cons_succ]
          refine wpAnyH_done (by kernel_rfl) ?_ _
          go_wp2
          go_meet
          exact ⟨q3, rfl, A5, c5, A6, c6, hs.drop.drop⟩
      · skip
        go_simp
        try clear hHeld
        refine hK.out _ _ (by (try dsimp only); first | exact tKeep (hs.at 3 rfl) | exact tKeep (hs.at 4 rfl) | exact tKeep ((hs.grow _).at 3 rfl) | exact tKeep ((hs.grow _).at 4 rfl)) (fun hHeld => ?_)
        clear hK K
        try simp only [Act.put, List.getElem_toArray, List.getElem_cons_zero, List.getElem_cons_succ, List.setIfInBounds_toArray, List.set_cons_zero, List.set_cons_succ]
        generalize hw : World.alloc W _ = W at hHeld ⊢
        replace hs := (hs.swap1.drop.lit0To hw).swap1
        clear hw
        refine wpAnyH_ready (rs := [10]) (by kernel_rfl) (by simp) ?_
        refine (AllReadyH.cons (o := _) rfl (fun K hK => ?_) AllReadyH.nil)
        go_simp
        try clear hHeld
        refine hK.out _ _ (by (try dsimp only); first | exact tKeep (hs.at 3 rfl) | exact tKeep (hs.at 4 rfl) | exact tKeep ((hs.grow _).at 3 rfl) | exact tKeep ((hs.grow _).at 4 rfl)) (fun hHeld => ?_)
        clear hK K
        try simp only [Act.put, List.getElem_toArray, List.getElem_cons_zero, List.getElem_cons_succ, List.setIfInBounds_toArray, List.set_cons_zero, List.set_cons_succ]
        generalize hw : World.alloc W _ = W at hHeld ⊢
        replace hs := hs.drop.lit0To hw
        clear hw
        refine wpAnyH_ready (rs := [13]) (by kernel_rfl) (by simp) ?_
        refine (AllReadyH.cons (o := _) rfl (fun K hK => ?_) AllReadyH.nil)
        refine step_append_src _ (by rfl) _ _ 25 25 (by rfl) 0 24 i1 (.int .u32 0) 1 4 Try.underlying25 hi1 hy0 hy1 hy2 rfl _ 0 [] (by rfl) hs.head (.slice cA cs.length cc) cs.length (u32s cs) (by rfl) (HC.out.src hs (by simp [u32s]) (by decide) Try.underlying25 cc (u32s_one cs)) (by unfold maxLen; omega) (by omega) (Nat.zero_le _) ?_
        intro v' W hown' hgrow hat
        have hown2 : W.ownsRow 0 24 1 v' cs.length (u32s cs) := by simpa using hown'
        obtain ⟨A5, c5, rfl⟩ := own_form hown2
        replace hs := hs.grown hgrow hown2 hat
        clear hown' hown2 hgrow hat
        try clear hHeld
        refine hK.out _ _ (by (try dsimp only); first | exact tKeep (hs.at 3 rfl) | exact tKeep (hs.at 4 rfl) | exact tKeep ((hs.grow _).at 3 rfl) | exact tKeep ((hs.grow _).at 4 rfl)) (fun hHeld => ?_)
        clear hK K
        try simp only [Act.put, List.getElem_toArray, List.getElem_cons_zero, List.getElem_cons_succ, List.setIfInBounds_toArray, List.set_cons_zero, List.set_cons_succ]
        refine wpAnyH_ready (rs := [17]) (by kernel_rfl) (by simp) ?_
        refine (AllReadyH.cons (o := _) rfl (fun K hK => ?_) AllReadyH.nil)
        replace hs := hs.swap1
        refine step_append_src _ (by rfl) _ _ 22 22 (by rfl) 0 5 i0 (.int .u8 0) 1 1 Try.underlying22 hi hz0 hz1 hz2 rfl _ 0 [] (by rfl) hs.head (.slice pA bs.length pc) bs.length (bvs bs) (by rfl) (HP.out.src hs Try.underlying22 pc) (by unfold maxLen; omega) (by omega) (Nat.zero_le _) ?_
        intro v' W hown' hgrow hat
        have hown2 : W.ownsRow 0 5 1 v' bs.length (bvs bs) := by simpa using hown'
        obtain ⟨A6, c6, rfl⟩ := own_form hown2
        replace hs := (hs.grown hgrow hown2 hat).swap1
        clear hown' hown2 hgrow hat
        try clear hHeld
        refine hK.out _ _ (by (try dsimp only); first | exact tKeep (hs.at 3 rfl) | exact tKeep (hs.at 4 rfl) | exact tKeep ((hs.grow _).at 3 rfl) | exact tKeep ((hs.grow _).at 4 rfl)) (fun hHeld => ?_)
        clear hK K
        try simp only [Act.put, List.getElem_toArray, List.getElem_cons_zero, List.getElem_cons_succ, List.setIfInBounds_toArray, List.set_cons_zero, List.set_cons_succ]
        refine wpAnyH_take (i := 20) (oi := _) (v := ?_) rfl (by kernel_rfl) (by kernel_rfl) (by kernel_rfl) (fun _ _ _ h => h) (Or.inl ⟨by rfl, ?_⟩) (by assumption) ?_
        rotate_left
        · (intro w hSw; (try dsimp only at hSw); go_simp; try with_reducible rfl)
        try simp only [Act.put, List.getElem_toArray, List.getElem_cons_zero, List.getElem_cons_succ, List.setIfInBounds_toArray, List.set_cons_zero, List.set_cons_succ]
        refine wpAnyH_ready (rs := [22]) (by kernel_rfl) (by simp) ?_
        refine (AllReadyH.cons (o := _) rfl (fun K hK => ?_) AllReadyH.nil)
        refine step_store_row (by rfl) 37 _ _ (by rfl) q3 (pfC p (.slice A5 cs.length c5) (.slice none 0 0) (.slice A6 bs.length c6)) (by rfl) (by rfl) 37 _ (hs.at 2 rfl) pkI rfl (by simp [Value.oneCell']) ?_
        replace hs := hs.setR2 (pfC p (.slice A5 cs.length c5) (.slice none 0 0) (.slice A6 bs.length c6))
        try clear hHeld
        refine hK.out _ _ (by (try dsimp only); first | exact tKeep (hs.at 3 rfl) | exact tKeep (hs.at 4 rfl) | exact tKeep ((hs.grow _).at 3 rfl) | exact tKeep ((hs.grow _).at 4 rfl)) (fun hHeld => ?_)
        clear hK K
        try simp only [Act.put, List.getElem_toArray, List.getElem_cons_zero, List.getElem_cons_succ, List.setIfInBounds_toArray, List.set_cons_zero, List.set_cons_succ]
        refine wpAnyH_done (by kernel_rfl) ?_ _
        go_wp2
        go_meet
        exact ⟨q3, rfl, A5, c5, A6, c6, hs.drop.drop⟩
  case rest =>
    obtain ⟨q3, rfl, A5, c5, A6, c6, hst⟩ := hcut
    clear hst1 HC HP hi1 hy0 hy1 hy2 i1
    obtain ⟨i2, hi2, hx0, hx1, hx2⟩ := info_parts info45
    obtain ⟨hcP, _, _⟩ := Blk.all (hst.at 2 rfl)
    have H0 := Lib.hid (hst.nil (e := 45) (size := 2))
    clear hst
    go_wp2
    clear hcP
    go_loopw [29] (fun iv wr => ∃ (k : Nat) (ys : List XD) (J : Img) (v : Value), k ≤ xs.length ∧ ys.length = k ∧ iv = .int .i64 k ∧ Hid (ys.map (fun x => (x.id, x.d)) = (xs.take k).map (fun x => (x.id, x.d)) ∧ I.le J ∧ (∀ y ∈ ys, Byts J y.A y.d ∧ y.d.length ≤ 140737488351232) ∧ St J (row 45 2 v ys.length (xsC ys) :: bk q3 37 (pfC p (.slice A5 cs.length c5) v (.slice A6 bs.length c6)) :: bk (w.heap.size + 1) 37 zC :: bk w.heap.size 28 (pfC p (.slice cA cs.length cc) (.slice eA xs.length ec) (.slice pA bs.length pc)) :: M) wr)) (fun iv _ => xs.length - (intOf iv).toNat)
    case atStart => exact ⟨0, [], I, .slice none 0 0, by omega, rfl, rfl, by simp, .refl I, (fun y hy => by cases hy), H0.out⟩
    case round =>
      obtain ⟨k, ys, J, v, hk, hys, rfl, hh⟩ := hrel
      obtain ⟨hkey, hle, hall, hs⟩ := hh.out
      clear hh H0
      by_cases hlt : k < xs.length
      · obtain ⟨g, o, rfl, hc⟩ := HX.out.atI (by omega)
        obtain ⟨x, hx⟩ : ∃ x, x = xs[k] := ⟨_, rfl⟩
        have hz := hc k hlt
        have hxm := HX.out.2 xs[k] (List.getElem_mem hlt)
        rw [← hx] at hz hxm
        have HZ := Lib.hid (show J.cell? ⟨g, o + k * 2, none⟩ = some (.int .i64 x.id) ∧ J.cell? ⟨g, o + k * 2 + 1, none⟩ = some (.slice x.A x.d.length x.c) from ⟨hle.cell hz.1, hle.cell hz.2⟩)
        have HBY := Lib.hid (hxm.1.mono hle)
        have hdl := hxm.2
        have HLE := Lib.hid hle
        have HAL := Lib.hid hall
        have HKEY := Lib.hid (show (ys ++ [x]).map (fun x => (x.id, x.d)) = (xs.take (k + 1)).map (fun x => (x.id, x.d)) by rw [List.take_succ_eq_append_getElem hlt, List.map_append, List.map_append, hkey, hx])
        clear hc hx hz hxm hle hall hkey
        go_upto_region 5 with fail
        replace hs := hs.drew
        refine wp_region_held_drew (S := (fun w' => w'.cell? ⟨w.heap.size, 6, none⟩ = some (.slice (some ⟨g, o, none⟩) xs.length ec) ∧ w'.cell? ⟨g, o + k * 2, none⟩ = some (.int .i64 x.id) ∧ w'.cell? ⟨g, o + k * 2 + 1, none⟩ = some (.slice x.A x.d.length x.c))) (by kernel_rfl) (by (try dsimp only); first | exact fKeep hs (hs.at 3 rfl) HZ.out | exact fKeep hs (hs.at 4 rfl) HZ.out | exact fKeep (hs.grow _) ((hs.grow _).at 3 rfl) HZ.out) (fun hHeld => ?_)
        generalize World.drew wr = W at hs hHeld ⊢
        refine wpAnyH_take (i := 0) (oi := _) (v := ?_) rfl (by kernel_rfl) (by kernel_rfl) (by kernel_rfl) (fun _ _ _ h => h) (Or.inl ⟨by rfl, ?_⟩) (by assumption) ?_
        rotate_left
        · (intro w hSw; (try dsimp only at hSw); go_simp; try with_reducible rfl)
        try simp only [Act.put, List.getElem_toArray, List.getElem_cons_zero, List.getElem_cons_succ, List.setIfInBounds_toArray, List.set_cons_zero, List.set_cons_succ]
        refine wpAnyH_take (i := 2) (oi := _) (v := ?_) rfl (by kernel_rfl) (by kernel_rfl) (by kernel_rfl) (fun _ _ _ h => h) (Or.inl ⟨by rfl, ?_⟩) (by assumption) ?_
        rotate_left
        · (intro w hSw; (try dsimp only at hSw); go_simp; try with_reducible rfl)
        try simp only [Act.put, List.getElem_toArray, List.getElem_cons_zero, List.getElem_cons_succ, List.setIfInBounds_toArray, List.set_cons_zero, List.set_cons_succ]
        refine wpAnyH_take (i := 3) (oi := _) (v := ?_) rfl (by kernel_rfl) (by kernel_rfl) (by kernel_rfl) (fun _ _ _ h => h) (Or.inl ⟨by rfl, ?_⟩) (by assumption) ?_
        rotate_left
        · (intro w hSw; (try dsimp only at hSw); go_simp; try with_reducible rfl)
        try simp only [Act.put, List.getElem_toArray, List.getElem_cons_zero, List.getElem_cons_succ, List.setIfInBounds_toArray, List.set_cons_zero, List.set_cons_succ]
        refine wpAnyH_take (i := 4) (oi := _) (v := ?_) rfl (by kernel_rfl) (by kernel_rfl) (by kernel_rfl) (fun _ _ _ h => h) (Or.inl ⟨by rfl, ?_⟩) (by assumption) ?_
        rotate_left
        · (intro w hSw; (try dsimp only at hSw); go_simp; try with_reducible rfl)
        try simp only [Act.put, List.getElem_toArray, List.getElem_cons_zero, List.getElem_cons_succ, List.setIfInBounds_toArray, List.set_cons_zero, List.set_cons_succ]
        refine wpAnyH_take (i := 5) (oi := _) (v := ?_) rfl (by kernel_rfl) (by kernel_rfl) (by kernel_rfl) (fun _ _ _ h => h) (Or.inl ⟨by rfl, ?_⟩) (by assumption) ?_
        rotate_left
        · (intro w hSw; (try dsimp only at hSw); go_simp; try with_reducible rfl)
        try simp only [Act.put, List.getElem_toArray, List.getElem_cons_zero, List.getElem_cons_succ, List.setIfInBounds_toArray, List.set_cons_zero, List.set_cons_succ]
        refine wpAnyH_take (i := 6) (oi := _) (v := ?_) rfl (by kernel_rfl) (by kernel_rfl) (by kernel_rfl) (fun _ _ _ h => h) (Or.inl ⟨by rfl, ?_⟩) (by assumption) ?_
        rotate_left
        · (intro w hSw; (try dsimp only at hSw); go_simp; try with_reducible rfl)
        try simp only [Act.put, List.getElem_toArray, List.getElem_cons_zero, List.getElem_cons_succ, List.setIfInBounds_toArray, List.set_cons_zero, List.set_cons_succ]
        refine wpAnyH_take (i := 7) (oi := _) (v := ?_) rfl (by kernel_rfl) (by kernel_rfl) (by kernel_rfl) (fun _ _ _ h => h) (Or.inl ⟨by rfl, ?_⟩) (by assumption) ?_
        rotate_left
        · (intro w hSw; (try dsimp only at hSw); go_simp; try with_reducible rfl)
        try simp only [Act.put, List.getElem_toArray, List.getElem_cons_zero, List.getElem_cons_succ, List.setIfInBounds_toArray, List.set_cons_zero, List.set_cons_succ]
        refine wpAnyH_take (i := 9) (oi := _) (v := ?_) rfl (by kernel_rfl) (by kernel_rfl) (by kernel_rfl) (fun _ _ _ h => h) (Or.inl ⟨by rfl, ?_⟩) (by assumption) ?_
        rotate_left
        · (intro w hSw; (try dsimp only at hSw); go_simp; try with_reducible rfl)
        try simp only [Act.put, List.getElem_toArray, List.getElem_cons_zero, List.getElem_cons_succ, List.setIfInBounds_toArray, List.set_cons_zero, List.set_cons_succ]
        refine wpAnyH_take (i := 10) (oi := _) (v := ?_) rfl (by kernel_rfl) (by kernel_rfl) (by kernel_rfl) (fun _ _ _ h => h) (Or.inl ⟨by rfl, ?_⟩) (by assumption) ?_
        rotate_left
        · (intro w hSw; (try dsimp only at hSw); go_simp; try with_reducible rfl)
        try simp only [Act.put, List.getElem_toArray, List.getElem_cons_zero, List.getElem_cons_succ, List.setIfInBounds_toArray, List.set_cons_zero, List.set_cons_succ]
        refine wpAnyH_take (i := 11) (oi := _) (v := ?_) rfl (by kernel_rfl) (by kernel_rfl) (by kernel_rfl) (fun _ _ _ h => h) (Or.inl ⟨by rfl, ?_⟩) (by assumption) ?_
        rotate_left
        · (intro w hSw; (try dsimp only at hSw); go_simp; try with_reducible rfl)
        try simp only [Act.put, List.getElem_toArray, List.getElem_cons_zero, List.getElem_cons_succ, List.setIfInBounds_toArray, List.set_cons_zero, List.set_cons_succ]
        refine wpAnyH_take (i := 12) (oi := _) (v := ?_) rfl (by kernel_rfl) (by kernel_rfl) (by kernel_rfl) (fun _ _ _ h => h) (Or.inl ⟨by rfl, ?_⟩) (by assumption) ?_
        rotate_left
        · (intro w hSw; (try dsimp only at hSw); go_simp; try with_reducible rfl)
        try simp only [Act.put, List.getElem_toArray, List.getElem_cons_zero, List.getElem_cons_succ, List.setIfInBounds_toArray, List.set_cons_zero, List.set_cons_succ]
        refine wpAnyH_take (i := 13) (oi := _) (v := ?_) rfl (by kernel_rfl) (by kernel_rfl) (by kernel_rfl) (fun _ _ _ h => h) (Or.inl ⟨by rfl, ?_⟩) (by assumption) ?_
        rotate_left
        · (intro w hSw; (try dsimp only at hSw); go_simp; try with_reducible rfl)
        try simp only [Act.put, List.getElem_toArray, List.getElem_cons_zero, List.getElem_cons_succ, List.setIfInBounds_toArray, List.set_cons_zero, List.set_cons_succ]
        refine wpAnyH_take (i := 14) (oi := _) (v := ?_) rfl (by kernel_rfl) (by kernel_rfl) (by kernel_rfl) (fun _ _ _ h => h) (Or.inl ⟨by rfl, ?_⟩) (by assumption) ?_
        rotate_left
        · (intro w hSw; (try dsimp only at hSw); go_simp; try with_reducible rfl)
        try simp only [Act.put, List.getElem_toArray, List.getElem_cons_zero, List.getElem_cons_succ, List.setIfInBounds_toArray, List.set_cons_zero, List.set_cons_succ]
        refine wpAnyH_ready (rs := [1, 8]) (by kernel_rfl) (by simp) ?_
        refine (AllReadyH.cons (o := _) rfl (fun K hK => ?_) (AllReadyH.cons (o := _) rfl (fun K hK => ?_) AllReadyH.nil))
        · skip
          have hcQ : W.cell? ⟨q3, 6, none⟩ = some v := by first | exact Blk.cell (show Blk W q3 37 _ from hs.at 1 rfl) 6 | exact Blk.cell (show Blk W q3 37 _ from hs.at 2 rfl) 6
          go_simp
          try clear hHeld
          refine hK.out _ _ (by (try dsimp only); first | exact fKeep hs (hs.at 3 rfl) HZ.out | exact fKeep hs (hs.at 4 rfl) HZ.out | exact fKeep (hs.grow _) ((hs.grow _).at 3 rfl) HZ.out) (fun hHeld => ?_)
          clear hK K
          try simp only [Act.put, List.getElem_toArray, List.getElem_cons_zero, List.getElem_cons_succ, List.setIfInBounds_toArray, List.set_cons_zero, List.set_cons_succ]
          clear hcQ
          refine wpAnyH_ready (rs := [8]) (by kernel_rfl) (by simp) ?_
          refine (AllReadyH.cons (o := _) rfl (fun K hK => ?_) AllReadyH.nil)
          go_simp
          try clear hHeld
          refine hK.out _ _ (by (try dsimp only); first | exact fKeep hs (hs.at 3 rfl) HZ.out | exact fKeep hs (hs.at 4 rfl) HZ.out | exact fKeep (hs.grow _) ((hs.grow _).at 3 rfl) HZ.out) (fun hHeld => ?_)
          clear hK K
          try simp only [Act.put, List.getElem_toArray, List.getElem_cons_zero, List.getElem_cons_succ, List.setIfInBounds_toArray, List.set_cons_zero, List.set_cons_succ]
          generalize hw : World.alloc W _ = W at hHeld ⊢
          replace hs := hs.lit0To hw
          clear hw
          refine wpAnyH_ready (rs := [15]) (by kernel_rfl) (by simp) ?_
          refine (AllReadyH.cons (o := _) rfl (fun K hK => ?_) AllReadyH.nil)
          refine step_append_src _ (by rfl) _ _ 22 22 (by rfl) 0 5 i0 (.int .u8 0) 1 1 Try.underlying22 hi hz0 hz1 hz2 rfl _ 0 [] (by rfl) hs.head (.slice x.A x.d.length x.c) x.d.length (bvs x.d) (by rfl) (HBY.out.src hs Try.underlying22 x.c) (by unfold maxLen; omega) (by omega) (Nat.zero_le _) ?_
          intro v' W hown' hgrow hat
          have hown2 : W.ownsRow 0 5 1 v' x.d.length (bvs x.d) := by simpa using hown'
          obtain ⟨A9, c9, rfl⟩ := own_form hown2
          replace hs := hs.grown hgrow hown2 hat
          obtain ⟨J9, hle9, hs9, hby9⟩ := hs.freezeRow
          replace hs := hs9
          replace HZ := Lib.hid (And.intro (hle9.cell HZ.out.1) (hle9.cell HZ.out.2))
          have HLE9 := Lib.hid (HLE.out.trans hle9)
          have HAL9 := Lib.hid (show ∀ y ∈ ys ++ [XD.mk x.id A9 c9 x.d], Byts J9 y.A y.d ∧ y.d.length ≤ 140737488351232 from fun y hy => by rcases List.mem_append.1 hy with h | h; exact ⟨(HAL.out y h).1.mono hle9, (HAL.out y h).2⟩; rw [List.mem_singleton] at h; subst h; exact ⟨hby9, hdl⟩)
          clear hown' hown2 hgrow hat hs9 hby9 hle9
          try clear hHeld
          refine hK.out _ _ (by (try dsimp only); first | exact fKeep hs (hs.at 3 rfl) HZ.out | exact fKeep hs (hs.at 4 rfl) HZ.out | exact fKeep (hs.grow _) ((hs.grow _).at 3 rfl) HZ.out) (fun hHeld => ?_)
          clear hK K
          try simp only [Act.put, List.getElem_toArray, List.getElem_cons_zero, List.getElem_cons_succ, List.setIfInBounds_toArray, List.set_cons_zero, List.set_cons_succ]
          refine wpAnyH_take (i := 16) (oi := _) (v := ?_) rfl (by kernel_rfl) (by kernel_rfl) (by kernel_rfl) (fun _ _ _ h => h) (Or.inl ⟨by rfl, ?_⟩) (by assumption) ?_
          rotate_left
          · (intro w hSw; (try dsimp only at hSw); go_simp; try with_reducible rfl)
          try simp only [Act.put, List.getElem_toArray, List.getElem_cons_zero, List.getElem_cons_succ, List.setIfInBounds_toArray, List.set_cons_zero, List.set_cons_succ]
          refine wpAnyH_ready (rs := [17]) (by kernel_rfl) (by simp) ?_
          refine (AllReadyH.cons (o := _) rfl (fun K hK => ?_) AllReadyH.nil)
          have hsr := hs.litSrcV (P := Try.prog) (t := 35) (e := 45) (cs := #[.int .i64 x.id, .slice A9 x.d.length c9]) (n := 1) (size := 2) rfl (by decide) Try.underlying35 (by simp [Value.oneCell'])
          go_simp
          try clear hHeld
          refine hK.out _ _ (by (try dsimp only); first | exact fKeep hs (hs.at 3 rfl) HZ.out | exact fKeep hs (hs.at 4 rfl) HZ.out | exact fKeep (hs.grow _) ((hs.grow _).at 3 rfl) HZ.out) (fun hHeld => ?_)
          clear hK K
          try simp only [Act.put, List.getElem_toArray, List.getElem_cons_zero, List.getElem_cons_succ, List.setIfInBounds_toArray, List.set_cons_zero, List.set_cons_succ]
          generalize hw : World.alloc W _ = W at hHeld hsr ⊢
          replace hs := hs.growTo hw
          clear hw
          refine wpAnyH_ready (rs := [18]) (by kernel_rfl) (by simp) ?_
          refine (AllReadyH.cons (o := _) rfl (fun K hK => ?_) AllReadyH.nil)
          refine step_append_src _ (by rfl) _ _ 35 35 (by rfl) 0 45 i2 (.agg #[.int .i64 0, .slice none 0 0]) 2 32 Try.underlying35 hi2 hx0 hx1 hx2 rfl _ ys.length (xsC ys) (by rfl) hs.head _ 1 _ (by rfl) hsr (by unfold maxLen; omega) (by omega) (Nat.zero_le _) ?_
          intro v' W hown' hgrow hat
          have hown2 : W.ownsRow 0 45 2 v' (ys ++ [XD.mk x.id A9 c9 x.d]).length (xsC (ys ++ [XD.mk x.id A9 c9 x.d])) := by simpa [xsC_append, xsC] using hown'
          obtain ⟨A10, c10, rfl⟩ := own_form hown2
          replace hs := hs.grown hgrow hown2 hat
          clear hown' hown2 hgrow hat hsr
          obtain ⟨n2, hn2⟩ : ∃ n2, n2 = (ys ++ [XD.mk x.id A9 c9 x.d]).length := ⟨_, rfl⟩
          rw [← hn2] at hs ⊢
          have HN2 := Lib.hid hn2
          clear hn2
          try clear hHeld
          refine hK.out _ _ (by (try dsimp only); first | exact fKeep hs (hs.at 3 rfl) HZ.out | exact fKeep hs (hs.at 4 rfl) HZ.out | exact fKeep (hs.grow _) ((hs.grow _).at 3 rfl) HZ.out) (fun hHeld => ?_)
          clear hK K
          try simp only [Act.put, List.getElem_toArray, List.getElem_cons_zero, List.getElem_cons_succ, List.setIfInBounds_toArray, List.set_cons_zero, List.set_cons_succ]
          refine wpAnyH_take (i := 19) (oi := _) (v := ?_) rfl (by kernel_rfl) (by kernel_rfl) (by kernel_rfl) (fun _ _ _ h => h) (Or.inl ⟨by rfl, ?_⟩) (by assumption) ?_
          rotate_left
          · (intro w hSw; (try dsimp only at hSw); go_simp; try with_reducible rfl)
          try simp only [Act.put, List.getElem_toArray, List.getElem_cons_zero, List.getElem_cons_succ, List.setIfInBounds_toArray, List.set_cons_zero, List.set_cons_succ]
          refine wpAnyH_ready (rs := [20]) (by kernel_rfl) (by simp) ?_
          refine (AllReadyH.cons (o := _) rfl (fun K hK => ?_) AllReadyH.nil)
          obtain ⟨hcQ, hfQ, hlQ⟩ := Blk.all (show Blk W q3 37 _ from hs.at 1 rfl)
          go_simp
          replace hs := hs.set1 6 (.slice A10 n2 c10)
          try clear hHeld
          refine hK.out _ _ (by (try dsimp only); first | exact fKeep hs (hs.at 3 rfl) HZ.out | exact fKeep hs (hs.at 4 rfl) HZ.out | exact fKeep (hs.grow _) ((hs.grow _).at 3 rfl) HZ.out) (fun hHeld => ?_)
          clear hK K
          try simp only [Act.put, List.getElem_toArray, List.getElem_cons_zero, List.getElem_cons_succ, List.setIfInBounds_toArray, List.set_cons_zero, List.set_cons_succ]
          clear hcQ hfQ hlQ
          refine wpAnyH_done (by kernel_rfl) ?_ _
          have HS := Lib.hid hs
          clear hs
          go_wp2
          go_roundw
          case rel => exact ⟨k + 1, ys ++ [XD.mk x.id A9 c9 x.d], J9, .slice A10 n2 c10, by omega, by simp [hys], by go_num, by rw [← HKEY.out, List.map_append, List.map_append]; rfl, HLE9.out, HAL9.out, by rw [← HN2.out]; exact HS.out⟩
          case measure => simp [intOf]; omega
        · skip
          go_simp
          try clear hHeld
          refine hK.out _ _ (by (try dsimp only); first | exact fKeep hs (hs.at 3 rfl) HZ.out | exact fKeep hs (hs.at 4 rfl) HZ.out | exact fKeep (hs.grow _) ((hs.grow _).at 3 rfl) HZ.out) (fun hHeld => ?_)
          clear hK K
          try simp only [Act.put, List.getElem_toArray, List.getElem_cons_zero, List.getElem_cons_succ, List.setIfInBounds_toArray, List.set_cons_zero, List.set_cons_succ]
          generalize hw : World.alloc W _ = W at hHeld ⊢
          replace hs := hs.lit0To hw
          clear hw
          refine wpAnyH_ready (rs := [1, 15]) (by kernel_rfl) (by simp) ?_
          refine (AllReadyH.cons (o := _) rfl (fun K hK => ?_) (AllReadyH.cons (o := _) rfl (fun K hK => ?_) AllReadyH.nil))
          · skip
            have hcQ : W.cell? ⟨q3, 6, none⟩ = some v := by first | exact Blk.cell (show Blk W q3 37 _ from hs.at 1 rfl) 6 | exact Blk.cell (show Blk W q3 37 _ from hs.at 2 rfl) 6
            go_simp
            try clear hHeld
            refine hK.out _ _ (by (try dsimp only); first | exact fKeep hs (hs.at 3 rfl) HZ.out | exact fKeep hs (hs.at 4 rfl) HZ.out | exact fKeep (hs.grow _) ((hs.grow _).at 3 rfl) HZ.out) (fun hHeld => ?_)
            clear hK K
            try simp only [Act.put, List.getElem_toArray, List.getElem_cons_zero, List.getElem_cons_succ, List.setIfInBounds_toArray, List.set_cons_zero, List.set_cons_succ]
            clear hcQ
            refine wpAnyH_ready (rs := [15]) (by kernel_rfl) (by simp) ?_
            refine (AllReadyH.cons (o := _) rfl (fun K hK => ?_) AllReadyH.nil)
            refine step_append_src _ (by rfl) _ _ 22 22 (by rfl) 0 5 i0 (.int .u8 0) 1 1 Try.underlying22 hi hz0 hz1 hz2 rfl _ 0 [] (by rfl) hs.head (.slice x.A x.d.length x.c) x.d.length (bvs x.d) (by rfl) (HBY.out.src hs Try.underlying22 x.c) (by unfold maxLen; omega) (by omega) (Nat.zero_le _) ?_
            intro v' W hown' hgrow hat
            have hown2 : W.ownsRow 0 5 1 v' x.d.length (bvs x.d) := by simpa using hown'
            obtain ⟨A9, c9, rfl⟩ := own_form hown2
            replace hs := hs.grown hgrow hown2 hat
            obtain ⟨J9, hle9, hs9, hby9⟩ := hs.freezeRow
            replace hs := hs9
            replace HZ := Lib.hid (And.intro (hle9.cell HZ.out.1) (hle9.cell HZ.out.2))
            have HLE9 := Lib.hid (HLE.out.trans hle9)
            have HAL9 := Lib.hid (show ∀ y ∈ ys ++ [XD.mk x.id A9 c9 x.d], Byts J9 y.A y.d ∧ y.d.length ≤ 140737488351232 from fun y hy => by rcases List.mem_append.1 hy with h | h; exact ⟨(HAL.out y h).1.mono hle9, (HAL.out y h).2⟩; rw [List.mem_singleton] at h; subst h; exact ⟨hby9, hdl⟩)
            clear hown' hown2 hgrow hat hs9 hby9 hle9
            try clear hHeld
            refine hK.out _ _ (by (try dsimp only); first | exact fKeep hs (hs.at 3 rfl) HZ.out | exact fKeep hs (hs.at 4 rfl) HZ.out | exact fKeep (hs.grow _) ((hs.grow _).at 3 rfl) HZ.out) (fun hHeld => ?_)
            clear hK K
            try simp only [Act.put, List.getElem_toArray, List.getElem_cons_zero, List.getElem_cons_succ, List.setIfInBounds_toArray, List.set_cons_zero, List.set_cons_succ]
            refine wpAnyH_take (i := 16) (oi := _) (v := ?_) rfl (by kernel_rfl) (by kernel_rfl) (by kernel_rfl) (fun _ _ _ h => h) (Or.inl ⟨by rfl, ?_⟩) (by assumption) ?_
            rotate_left
            · (intro w hSw; (try dsimp only at hSw); go_simp; try with_reducible rfl)
            try simp only [Act.put, List.getElem_toArray, List.getElem_cons_zero, List.getElem_cons_succ, List.setIfInBounds_toArray, List.set_cons_zero, List.set_cons_succ]
            refine wpAnyH_ready (rs := [17]) (by kernel_rfl) (by simp) ?_
            refine (AllReadyH.cons (o := _) rfl (fun K hK => ?_) AllReadyH.nil)
            have hsr := hs.litSrcV (P := Try.prog) (t := 35) (e := 45) (cs := #[.int .i64 x.id, .slice A9 x.d.length c9]) (n := 1) (size := 2) rfl (by decide) Try.underlying35 (by simp [Value.oneCell'])
            go_simp
            try clear hHeld
            refine hK.out _ _ (by (try dsimp only); first | exact fKeep hs (hs.at 3 rfl) HZ.out | exact fKeep hs (hs.at 4 rfl) HZ.out | exact fKeep (hs.grow _) ((hs.grow _).at 3 rfl) HZ.out) (fun hHeld => ?_)
            clear hK K
            try simp only [Act.put, List.getElem_toArray, List.getElem_cons_zero, List.getElem_cons_succ, List.setIfInBounds_toArray, List.set_cons_zero, List.set_cons_succ]
            generalize hw : World.alloc W _ = W at hHeld hsr ⊢
            replace hs := hs.growTo hw
            clear hw
            refine wpAnyH_ready (rs := [18]) (by kernel_rfl) (by simp) ?_
            refine (AllReadyH.cons (o := _) rfl (fun K hK => ?_) AllReadyH.nil)
            refine step_append_src _ (by rfl) _ _ 35 35 (by rfl) 0 45 i2 (.agg #[.int .i64 0, .slice none 0 0]) 2 32 Try.underlying35 hi2 hx0 hx1 hx2 rfl _ ys.length (xsC ys) (by rfl) hs.head _ 1 _ (by rfl) hsr (by unfold maxLen; omega) (by omega) (Nat.zero_le _) ?_
            intro v' W hown' hgrow hat
            have hown2 : W.ownsRow 0 45 2 v' (ys ++ [XD.mk x.id A9 c9 x.d]).length (xsC (ys ++ [XD.mk x.id A9 c9 x.d])) := by simpa [xsC_append, xsC] using hown'
            obtain ⟨A10, c10, rfl⟩ := own_form hown2
            replace hs := hs.grown hgrow hown2 hat
            clear hown' hown2 hgrow hat hsr
            obtain ⟨n2, hn2⟩ : ∃ n2, n2 = (ys ++ [XD.mk x.id A9 c9 x.d]).length := ⟨_, rfl⟩
            rw [← hn2] at hs ⊢
            have HN2 := Lib.hid hn2
            clear hn2
            try clear hHeld
            refine hK.out _ _ (by (try dsimp only); first | exact fKeep hs (hs.at 3 rfl) HZ.out | exact fKeep hs (hs.at 4 rfl) HZ.out | exact fKeep (hs.grow _) ((hs.grow _).at 3 rfl) HZ.out) (fun hHeld => ?_)
            clear hK K
            try simp only [Act.put, List.getElem_toArray, List.getElem_cons_zero, List.getElem_cons_succ, List.setIfInBounds_toArray, List.set_cons_zero, List.set_cons_succ]
            refine wpAnyH_take (i := 19) (oi := _) (v := ?_) rfl (by kernel_rfl) (by kernel_rfl) (by kernel_rfl) (fun _ _ _ h => h) (Or.inl ⟨by rfl, ?_⟩) (by assumption) ?_
            rotate_left
            · (intro w hSw; (try dsimp only at hSw); go_simp; try with_reducible rfl)
            try simp only [Act.put, List.getElem_toArray, List.getElem_cons_zero, List.getElem_cons_succ, List.setIfInBounds_toArray, List.set_cons_zero, List.set_cons_succ]
            refine wpAnyH_ready (rs := [20]) (by kernel_rfl) (by simp) ?_
            refine (AllReadyH.cons (o := _) rfl (fun K hK => ?_) AllReadyH.nil)
            obtain ⟨hcQ, hfQ, hlQ⟩ := Blk.all (show Blk W q3 37 _ from hs.at 1 rfl)
            go_simp
            replace hs := hs.set1 6 (.slice A10 n2 c10)
            try clear hHeld
            refine hK.out _ _ (by (try dsimp only); first | exact fKeep hs (hs.at 3 rfl) HZ.out | exact fKeep hs (hs.at 4 rfl) HZ.out | exact fKeep (hs.grow _) ((hs.grow _).at 3 rfl) HZ.out) (fun hHeld => ?_)
            clear hK K
            try simp only [Act.put, List.getElem_toArray, List.getElem_cons_zero, List.getElem_cons_succ, List.setIfInBounds_toArray, List.set_cons_zero, List.set_cons_succ]
            clear hcQ hfQ hlQ
            refine wpAnyH_done (by kernel_rfl) ?_ _
            have HS := Lib.hid hs
            clear hs
            go_wp2
            go_roundw
            case rel => exact ⟨k + 1, ys ++ [XD.mk x.id A9 c9 x.d], J9, .slice A10 n2 c10, by omega, by simp [hys], by go_num, by rw [← HKEY.out, List.map_append, List.map_append]; rfl, HLE9.out, HAL9.out, by rw [← HN2.out]; exact HS.out⟩
            case measure => simp [intOf]; omega
          · skip
            refine step_append_src _ (by rfl) _ _ 22 22 (by rfl) 0 5 i0 (.int .u8 0) 1 1 Try.underlying22 hi hz0 hz1 hz2 rfl _ 0 [] (by rfl) hs.head (.slice x.A x.d.length x.c) x.d.length (bvs x.d) (by rfl) (HBY.out.src hs Try.underlying22 x.c) (by unfold maxLen; omega) (by omega) (Nat.zero_le _) ?_
            intro v' W hown' hgrow hat
            have hown2 : W.ownsRow 0 5 1 v' x.d.length (bvs x.d) := by simpa using hown'
            obtain ⟨A9, c9, rfl⟩ := own_form hown2
            replace hs := hs.grown hgrow hown2 hat
            obtain ⟨J9, hle9, hs9, hby9⟩ := hs.freezeRow
            replace hs := hs9
            replace HZ := Lib.hid (And.intro (hle9.cell HZ.out.1) (hle9.cell HZ.out.2))
            have HLE9 := Lib.hid (HLE.out.trans hle9)
            have HAL9 := Lib.hid (show ∀ y ∈ ys ++ [XD.mk x.id A9 c9 x.d], Byts J9 y.A y.d ∧ y.d.length ≤ 140737488351232 from fun y hy => by rcases List.mem_append.1 hy with h | h; exact ⟨(HAL.out y h).1.mono hle9, (HAL.out y h).2⟩; rw [List.mem_singleton] at h; subst h; exact ⟨hby9, hdl⟩)
            clear hown' hown2 hgrow hat hs9 hby9 hle9
            try clear hHeld
            refine hK.out _ _ (by (try dsimp only); first | exact fKeep hs (hs.at 3 rfl) HZ.out | exact fKeep hs (hs.at 4 rfl) HZ.out | exact fKeep (hs.grow _) ((hs.grow _).at 3 rfl) HZ.out) (fun hHeld => ?_)
            clear hK K
            try simp only [Act.put, List.getElem_toArray, List.getElem_cons_zero, List.getElem_cons_succ, List.setIfInBounds_toArray, List.set_cons_zero, List.set_cons_succ]
            refine wpAnyH_take (i := 16) (oi := _) (v := ?_) rfl (by kernel_rfl) (by kernel_rfl) (by kernel_rfl) (fun _ _ _ h => h) (Or.inl ⟨by rfl, ?_⟩) (by assumption) ?_
            rotate_left
            · (intro w hSw; (try dsimp only at hSw); go_simp; try with_reducible rfl)
            try simp only [Act.put, List.getElem_toArray, List.getElem_cons_zero, List.getElem_cons_succ, List.setIfInBounds_toArray, List.set_cons_zero, List.set_cons_succ]
            refine wpAnyH_ready (rs := [1, 17]) (by kernel_rfl) (by simp) ?_
            refine (AllReadyH.cons (o := _) rfl (fun K hK => ?_) (AllReadyH.cons (o := _) rfl (fun K hK => ?_) AllReadyH.nil))
            · skip
              have hcQ : W.cell? ⟨q3, 6, none⟩ = some v := by first | exact Blk.cell (show Blk W q3 37 _ from hs.at 1 rfl) 6 | exact Blk.cell (show Blk W q3 37 _ from hs.at 2 rfl) 6
              go_simp
              try clear hHeld
              refine hK.out _ _ (by (try dsimp only); first | exact fKeep hs (hs.at 3 rfl) HZ.out | exact fKeep hs (hs.at 4 rfl) HZ.out | exact fKeep (hs.grow _) ((hs.grow _).at 3 rfl) HZ.out) (fun hHeld => ?_)
              clear hK K
              try simp only [Act.put, List.getElem_toArray, List.getElem_cons_zero, List.getElem_cons_succ, List.setIfInBounds_toArray, List.set_cons_zero, List.set_cons_succ]
              clear hcQ
              refine wpAnyH_ready (rs := [17]) (by kernel_rfl) (by simp) ?_
              refine (AllReadyH.cons (o := _) rfl (fun K hK => ?_) AllReadyH.nil)
              have hsr := hs.litSrcV (P := Try.prog) (t := 35) (e := 45) (cs := #[.int .i64 x.id, .slice A9 x.d.length c9]) (n := 1) (size := 2) rfl (by decide) Try.underlying35 (by simp [Value.oneCell'])
              go_simp
              try clear hHeld
              refine hK.out _ _ (by (try dsimp only); first | exact fKeep hs (hs.at 3 rfl) HZ.out | exact fKeep hs (hs.at 4 rfl) HZ.out | exact fKeep (hs.grow _) ((hs.grow _).at 3 rfl) HZ.out) (fun hHeld => ?_)
              clear hK K
              try simp only [Act.put, List.getElem_toArray, List.getElem_cons_zero, List.getElem_cons_succ, List.setIfInBounds_toArray, List.set_cons_zero, List.set_cons_succ]
              generalize hw : World.alloc W _ = W at hHeld hsr ⊢
              replace hs := hs.growTo hw
              clear hw
              refine wpAnyH_ready (rs := [18]) (by kernel_rfl) (by simp) ?_
              refine (AllReadyH.cons (o := _) rfl (fun K hK => ?_) AllReadyH.nil)
              refine step_append_src _ (by rfl) _ _ 35 35 (by rfl) 0 45 i2 (.agg #[.int .i64 0, .slice none 0 0]) 2 32 Try.underlying35 hi2 hx0 hx1 hx2 rfl _ ys.length (xsC ys) (by rfl) hs.head _ 1 _ (by rfl) hsr (by unfold maxLen; omega) (by omega) (Nat.zero_le _) ?_
              intro v' W hown' hgrow hat
              have hown2 : W.ownsRow 0 45 2 v' (ys ++ [XD.mk x.id A9 c9 x.d]).length (xsC (ys ++ [XD.mk x.id A9 c9 x.d])) := by simpa [xsC_append, xsC] using hown'
              obtain ⟨A10, c10, rfl⟩ := own_form hown2
              replace hs := hs.grown hgrow hown2 hat
              clear hown' hown2 hgrow hat hsr
              obtain ⟨n2, hn2⟩ : ∃ n2, n2 = (ys ++ [XD.mk x.id A9 c9 x.d]).length := ⟨_, rfl⟩
              rw [← hn2] at hs ⊢
              have HN2 := Lib.hid hn2
              clear hn2
              try clear hHeld
              refine hK.out _ _ (by (try dsimp only); first | exact fKeep hs (hs.at 3 rfl) HZ.out | exact fKeep hs (hs.at 4 rfl) HZ.out | exact fKeep (hs.grow _) ((hs.grow _).at 3 rfl) HZ.out) (fun hHeld => ?_)
              clear hK K
              try simp only [Act.put, List.getElem_toArray, List.getElem_cons_zero, List.getElem_cons_succ, List.setIfInBounds_toArray, List.set_cons_zero, List.set_cons_succ]
              refine wpAnyH_take (i := 19) (oi := _) (v := ?_) rfl (by kernel_rfl) (by kernel_rfl) (by kernel_rfl) (fun _ _ _ h => h) (Or.inl ⟨by rfl, ?_⟩) (by assumption) ?_
              rotate_left
              · (intro w hSw; (try dsimp only at hSw); go_simp; try with_reducible rfl)
              try simp only [Act.put, List.getElem_toArray, List.getElem_cons_zero, List.getElem_cons_succ, List.setIfInBounds_toArray, List.set_cons_zero, List.set_cons_succ]
              refine wpAnyH_ready (rs := [20]) (by kernel_rfl) (by simp) ?_
              refine (AllReadyH.cons (o := _) rfl (fun K hK => ?_) AllReadyH.nil)
              obtain ⟨hcQ, hfQ, hlQ⟩ := Blk.all (show Blk W q3 37 _ from hs.at 1 rfl)
              go_simp
              replace hs := hs.set1 6 (.slice A10 n2 c10)
              try clear hHeld
              refine hK.out _ _ (by (try dsimp only); first | exact fKeep hs (hs.at 3 rfl) HZ.out | exact fKeep hs (hs.at 4 rfl) HZ.out | exact fKeep (hs.grow _) ((hs.grow _).at 3 rfl) HZ.out) (fun hHeld => ?_)
              clear hK K
              try simp only [Act.put, List.getElem_toArray, List.getElem_cons_zero, List.getElem_cons_succ, List.setIfInBounds_toArray, List.set_cons_zero, List.set_cons_succ]
              clear hcQ hfQ hlQ
              refine wpAnyH_done (by kernel_rfl) ?_ _
              have HS := Lib.hid hs
              clear hs
              go_wp2
              go_roundw
              case rel => exact ⟨k + 1, ys ++ [XD.mk x.id A9 c9 x.d], J9, .slice A10 n2 c10, by omega, by simp [hys], by go_num, by rw [← HKEY.out, List.map_append, List.map_append]; rfl, HLE9.out, HAL9.out, by rw [← HN2.out]; exact HS.out⟩
              case measure => simp [intOf]; omega
            · skip
              have hsr := hs.litSrcV (P := Try.prog) (t := 35) (e := 45) (cs := #[.int .i64 x.id, .slice A9 x.d.length c9]) (n := 1) (size := 2) rfl (by decide) Try.underlying35 (by simp [Value.oneCell'])
              go_simp
              try clear hHeld
              refine hK.out _ _ (by (try dsimp only); first | exact fKeep hs (hs.at 3 rfl) HZ.out | exact fKeep hs (hs.at 4 rfl) HZ.out | exact fKeep (hs.grow _) ((hs.grow _).at 3 rfl) HZ.out) (fun hHeld => ?_)
              clear hK K
              try simp only [Act.put, List.getElem_toArray, List.getElem_cons_zero, List.getElem_cons_succ, List.setIfInBounds_toArray, List.set_cons_zero, List.set_cons_succ]
              generalize hw : World.alloc W _ = W at hHeld hsr ⊢
              replace hs := hs.growTo hw
              clear hw
              refine wpAnyH_ready (rs := [1]) (by kernel_rfl) (by simp) ?_
              refine (AllReadyH.cons (o := _) rfl (fun K hK => ?_) AllReadyH.nil)
              have hcQ : W.cell? ⟨q3, 6, none⟩ = some v := by first | exact Blk.cell (show Blk W q3 37 _ from hs.at 1 rfl) 6 | exact Blk.cell (show Blk W q3 37 _ from hs.at 2 rfl) 6
              go_simp
              try clear hHeld
              refine hK.out _ _ (by (try dsimp only); first | exact fKeep hs (hs.at 3 rfl) HZ.out | exact fKeep hs (hs.at 4 rfl) HZ.out | exact fKeep (hs.grow _) ((hs.grow _).at 3 rfl) HZ.out) (fun hHeld => ?_)
              clear hK K
              try simp only [Act.put, List.getElem_toArray, List.getElem_cons_zero, List.getElem_cons_succ, List.setIfInBounds_toArray, List.set_cons_zero, List.set_cons_succ]
              clear hcQ
              refine wpAnyH_ready (rs := [18]) (by kernel_rfl) (by simp) ?_
              refine (AllReadyH.cons (o := _) rfl (fun K hK => ?_) AllReadyH.nil)
              refine step_append_src _ (by rfl) _ _ 35 35 (by rfl) 0 45 i2 (.agg #[.int .i64 0, .slice none 0 0]) 2 32 Try.underlying35 hi2 hx0 hx1 hx2 rfl _ ys.length (xsC ys) (by rfl) hs.head _ 1 _ (by rfl) hsr (by unfold maxLen; omega) (by omega) (Nat.zero_le _) ?_
              intro v' W hown' hgrow hat
              have hown2 : W.ownsRow 0 45 2 v' (ys ++ [XD.mk x.id A9 c9 x.d]).length (xsC (ys ++ [XD.mk x.id A9 c9 x.d])) := by simpa [xsC_append, xsC] using hown'
              obtain ⟨A10, c10, rfl⟩ := own_form hown2
              replace hs := hs.grown hgrow hown2 hat
              clear hown' hown2 hgrow hat hsr
              obtain ⟨n2, hn2⟩ : ∃ n2, n2 = (ys ++ [XD.mk x.id A9 c9 x.d]).length := ⟨_, rfl⟩
              rw [← hn2] at hs ⊢
              have HN2 := Lib.hid hn2
              clear hn2
              try clear hHeld
              refine hK.out _ _ (by (try dsimp only); first | exact fKeep hs (hs.at 3 rfl) HZ.out | exact fKeep hs (hs.at 4 rfl) HZ.out | exact fKeep (hs.grow _) ((hs.grow _).at 3 rfl) HZ.out) (fun hHeld => ?_)
              clear hK K
              try simp only [Act.put, List.getElem_toArray, List.getElem_cons_zero, List.getElem_cons_succ, List.setIfInBounds_toArray, List.set_cons_zero, List.set_cons_succ]
              refine wpAnyH_take (i := 19) (oi := _) (v := ?_) rfl (by kernel_rfl) (by kernel_rfl) (by kernel_rfl) (fun _ _ _ h => h) (Or.inl ⟨by rfl, ?_⟩) (by assumption) ?_
              rotate_left
              · (intro w hSw; (try dsimp only at hSw); go_simp; try with_reducible rfl)
              try simp only [Act.put, List.getElem_toArray, List.getElem_cons_zero, List.getElem_cons_succ, List.setIfInBounds_toArray, List.set_cons_zero, List.set_cons_succ]
              refine wpAnyH_ready (rs := [20]) (by kernel_rfl) (by simp) ?_
              refine (AllReadyH.cons (o := _) rfl (fun K hK => ?_) AllReadyH.nil)
              obtain ⟨hcQ, hfQ, hlQ⟩ := Blk.all (show Blk W q3 37 _ from hs.at 1 rfl)
              go_simp
              replace hs := hs.set1 6 (.slice A10 n2 c10)
              try clear hHeld
              refine hK.out _ _ (by (try dsimp only); first | exact fKeep hs (hs.at 3 rfl) HZ.out | exact fKeep hs (hs.at 4 rfl) HZ.out | exact fKeep (hs.grow _) ((hs.grow _).at 3 rfl) HZ.out) (fun hHeld => ?_)
              clear hK K
              try simp only [Act.put, List.getElem_toArray, List.getElem_cons_zero, List.getElem_cons_succ, List.setIfInBounds_toArray, List.set_cons_zero, List.set_cons_succ]
              clear hcQ hfQ hlQ
              refine wpAnyH_done (by kernel_rfl) ?_ _
              have HS := Lib.hid hs
              clear hs
              go_wp2
              go_roundw
              case rel => exact ⟨k + 1, ys ++ [XD.mk x.id A9 c9 x.d], J9, .slice A10 n2 c10, by omega, by simp [hys], by go_num, by rw [← HKEY.out, List.map_append, List.map_append]; rfl, HLE9.out, HAL9.out, by rw [← HN2.out]; exact HS.out⟩
              case measure => simp [intOf]; omega
      · have hk' : k = xs.length := by omega
        rw [hk', List.take_length] at hkey
        have hk2 : (xs.length : Int) ≤ k := by omega
        clear hlt
        obtain ⟨A, c, rfl⟩ := own_form (show wr.ownsRow 0 45 2 v ys.length (xsC ys) from hs.head)
        have hb3 : Blk wr q3 37 _ := hs.at 1 rfl
        have hb2 : Blk wr (w.heap.size + 1) 37 zC := hs.at 2 rfl
        have HS := Lib.hid hs
        have HAL := Lib.hid hall
        have HKEY := Lib.hid hkey
        obtain ⟨fs, hd⟩ := pkD
        clear hs hall hkey
        go_upto_region 99 with (first | refine wpList_load_row rfl 37 (.tmp 3) rfl q3 rfl 37 _ (0, 0) _ hb3 hd rfl pkI ?_ | refine wpList_store_row rfl 37 (.tmp 2) (.tmp 53) rfl (w.heap.size + 1) (pfC p (.slice A5 cs.length c5) (.slice A ys.length c) (.slice A6 bs.length c6)) rfl rfl 37 _ hb2 pkI rfl (by simp [Value.oneCell']) ?_)
        have hs2 := HS.out.setR2 (pfC p (.slice A5 cs.length c5) (.slice A ys.length c) (.slice A6 bs.length c6))
        refine bodyPost_ret (res8 _ _ p _ _ _ _ _ _ _ _ _ _ rfl (hs2.at 2 rfl)) rfl ?_
        obtain ⟨J2, hle2, hs3, hcells⟩ := hs2.freezeRow
        exact Ret.mk (hle.trans hle2) hs3.drop.drop.drop ⟨rfl, _, _, A, c, ys, rfl, HKEY.out, hcells, fun y hy => ⟨(HAL.out y hy).1.mono hle2, (HAL.out y hy).2⟩⟩
end Go.Proofs.Ytalmnbpljeaeaaa
