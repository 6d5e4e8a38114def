/- descriptions that are only read; rostrumref06.SameAttrs, SamePart. -/
import Derived.Test.YtpbbincgddmbiaaSdP
namespace Go.Proofs.Ytpbbincgddmbiaa
open Go.RowKit
set_option linter.unusedSimpArgs false

/-- attributes that are only read -/
def Attrs (I : Img) (v : Value) (l : List At) : Prop := ∃ A c, v = .slice A l.length c ∧ Cells I A (flat atC l)
theorem Attrs.mono {I J : Img} {v : Value} {l : List At} (h : Attrs I v l) (hl : I.le J) : Attrs J v l := by
  obtain ⟨A, c, e, hc⟩ := h
  exact ⟨A, c, e, hc.mono hl⟩
theorem Attrs.at {I : Img} {v : Value} {l : List At} (h : Attrs I v l) (h0 : 0 < l.length) : ∃ g o c, v = .slice (some ⟨g, o, none⟩) l.length c ∧
    ∀ (M : List Res) (w : World), St I M w → ∀ i (hi : i < l.length), w.cell? ⟨g, o + i * 2, none⟩ = some (.string l[i].name) ∧ w.cell? ⟨g, o + i * 2 + 1, none⟩ = some (.string l[i].value) := by
  obtain ⟨A, c, e, hc⟩ := h
  have hfl := flat_len (f := atC) (s := 2) (fun _ => rfl) l
  obtain ⟨g, o, rfl, hcc⟩ := hc.at (by rw [hfl]; omega)
  refine ⟨g, o, c, e, fun M w hst i hi => ?_⟩
  have h0 := hcc M w hst (i * 2) (by rw [hfl]; omega)
  have h1 := hcc M w hst (i * 2 + 1) (by rw [hfl]; omega)
  have f0 := flat_at (f := atC) (s := 2) (fun _ => rfl) l i 0 hi (by decide)
  have f1 := flat_at (f := atC) (s := 2) (fun _ => rfl) l i 1 hi (by decide)
  rw [← List.getElem?_eq_getElem] at h0 h1
  rw [Nat.add_zero] at f0
  exact ⟨h0.trans f0, by rw [Nat.add_assoc]; exact h1.trans f1⟩
def Parts (I : Img) (v : Value) (pv : List (Pa × Value)) : Prop := ∃ A c, v = .slice A pv.length c ∧ Cells I A (flat paC pv)
theorem Parts.mono {I J : Img} {v : Value} {pv : List (Pa × Value)} (h : Parts I v pv) (hl : I.le J) : Parts J v pv := by
  obtain ⟨A, c, e, hc⟩ := h
  exact ⟨A, c, e, hc.mono hl⟩
theorem Parts.at {I : Img} {v : Value} {pv : List (Pa × Value)} (h : Parts I v pv) (h0 : 0 < pv.length) : ∃ g o c, v = .slice (some ⟨g, o, none⟩) pv.length c ∧
    ∀ (M : List Res) (w : World), St I M w → ∀ i (hi : i < pv.length), w.cell? ⟨g, o + i * 3, none⟩ = some (.string pv[i].1.line) ∧ w.cell? ⟨g, o + i * 3 + 1, none⟩ = some (.string pv[i].1.conn) ∧ w.cell? ⟨g, o + i * 3 + 2, none⟩ = some pv[i].2 := by
  obtain ⟨A, c, e, hc⟩ := h
  have hfl := flat_len (f := paC) (s := 3) (fun _ => rfl) pv
  obtain ⟨g, o, rfl, hcc⟩ := hc.at (by rw [hfl]; omega)
  refine ⟨g, o, c, e, fun M w hst i hi => ?_⟩
  have h0 := hcc M w hst (i * 3) (by rw [hfl]; omega)
  have h1 := hcc M w hst (i * 3 + 1) (by rw [hfl]; omega)
  have h2 := hcc M w hst (i * 3 + 2) (by rw [hfl]; omega)
  have f0 := flat_at (f := paC) (s := 3) (fun _ => rfl) pv i 0 hi (by decide)
  have f1 := flat_at (f := paC) (s := 3) (fun _ => rfl) pv i 1 hi (by decide)
  have f2 := flat_at (f := paC) (s := 3) (fun _ => rfl) pv i 2 hi (by decide)
  rw [← List.getElem?_eq_getElem] at h0 h1 h2
  rw [Nat.add_zero] at f0
  exact ⟨h0.trans f0, by rw [Nat.add_assoc]; exact h1.trans f1, by rw [Nat.add_assoc]; exact h2.trans f2⟩
/-- a description that is only read -/
structure Ses (I : Img) (vA vP : Value) (pv : List (Pa × Value)) (x : Ss) : Prop where
  attrs : Attrs I vA x.attrs
  parts : Parts I vP pv
  each : ∀ p ∈ pv, Attrs I p.2 p.1.attrs
  same : partsOf pv = x.parts
theorem Ses.mono {I J : Img} {vA vP : Value} {pv : List (Pa × Value)} {x : Ss} (h : Ses I vA vP pv x) (hl : I.le J) : Ses J vA vP pv x :=
  ⟨h.attrs.mono hl, h.parts.mono hl, fun p hp => (h.each p hp).mono hl, h.same⟩
theorem freezeAttrs {TA : Nat} {I : Img} {M : List Res} {w : World} {v : Value} {l : List At} (h : St I (row TA 2 v l.length (flat atC l) :: M) w) : ∃ J, I.le J ∧ St J M w ∧ Attrs J v l := by
  obtain ⟨A, c, rfl⟩ := own_form (show World.ownsRow _ 0 TA 2 v _ _ from h.head)
  obtain ⟨J, h1, h2, h3⟩ := h.freezeRow
  exact ⟨J, h1, h2, A, c, rfl, h3⟩
theorem freezeEach {TA : Nat} {M : List Res} {w : World} : ∀ (pv : List (Pa × Value)) {I : Img}, St I (pv.map (arow TA) ++ M) w → ∃ J, I.le J ∧ St J M w ∧ ∀ p ∈ pv, Attrs J p.2 p.1.attrs
  | [], I, h => ⟨I, .refl I, h, fun p hp => by cases hp⟩
  | y :: r, I, h => by
    obtain ⟨J, h1, h2, h3⟩ := freezeAttrs (l := y.1.attrs) h
    obtain ⟨K, k1, k2, k3⟩ := freezeEach r h2
    refine ⟨K, h1.trans k1, k2, fun p hp => ?_⟩
    rcases List.mem_cons.1 hp with rfl | hp
    · exact h3.mono k1
    · exact k3 p hp
theorem freezeSes {TA TP : Nat} {I : Img} {M : List Res} {w : World} {x : Ss} {vA vP : Value} {pv : List (Pa × Value)} (h : St I (sesV TA TP x vA vP pv M) w) (hp : partsOf pv = x.parts) : ∃ J, I.le J ∧ St J M w ∧ Ses J vA vP pv x := by
  obtain ⟨A, c, rfl⟩ := own_form (show World.ownsRow _ 0 TP 3 vP _ _ from h.head)
  obtain ⟨J, h1, h2, h3⟩ := h.freezeRow
  obtain ⟨K, k1, k2, k3⟩ := freezeAttrs (l := x.attrs) h2
  obtain ⟨L, l1, l2, l3⟩ := freezeEach pv k2
  exact ⟨L, (h1.trans k1).trans l1, l2, k3.mono l1, ⟨A, c, rfl, h3.mono (k1.trans l1)⟩, l3, hp⟩
/-- the answer is whether two are the same -/
def Tells (I : Img) (M : List Res) (P : Prop) : Ending → World → Prop := Ret I (fun v J M' => I = J ∧ (∃ b, v = .bool b ∧ (b = true ↔ P)) ∧ M' = M)
theorem Tells.yes {I : Img} {M : List Res} {w : World} {P : Prop} (hs : St I M w) (h : P) : Tells I M P (.returned (.bool true)) w := Ret.mk (.refl I) hs ⟨rfl, ⟨true, rfl, by simp [h]⟩, rfl⟩
theorem Tells.no {I : Img} {M : List Res} {w : World} {P : Prop} (hs : St I M w) (h : ¬ P) : Tells I M P (.returned (.bool false)) w := Ret.mk (.refl I) hs ⟨rfl, ⟨false, rfl, by simp [h]⟩, rfl⟩
theorem bytes_ne {a b : ByteArray} (h : a ≠ b) : (a.toList == b.toList) = false := by
  cases e : (a.toList == b.toList)
  · rfl
  · rw [beq_iff_eq, ByteArray.toList_eq, ByteArray.toList_eq] at e
    exfalso
    apply h
    cases a
    cases b
    simp only at e
    congr 1
    exact Array.toList_inj.1 e
set_option maxRecDepth 8000 in
set_option maxHeartbeats 4000000 in
theorem sameAttrsR (I : Img) (M : List Res) (w : World) (vA vB : Value) (l k : List At) (hst : St I M w) (ha : Attrs I vA l) (hb : Attrs I vB k) (hl : l.length ≤ 4611686018427387904) (hk : k.length ≤ 4611686018427387904) :
    Calls Try.prog 23 #[vA, vB] w (Tells I M (l = k)) := by
  have HA := Lib.hid ha
  have HB := Lib.hid hb
  obtain ⟨A, c, rfl, _⟩ := ha
  obtain ⟨B, d, rfl, _⟩ := hb
  have HS := Lib.hid hst
  clear hst
  go_enter Try.func23, Try.ntmps23
  by_cases hn : l.length = k.length
  rotate_left
  · have hne : ((l.length : Int) != (k.length : Int)) = true := by simp; omega
    go_wp2
    go_returns
    exact Tells.no HS.out (fun e => hn (by rw [e]))
  have hne : ((l.length : Int) != (k.length : Int)) = false := by simp; omega
  go_upto_region 4 with fail
  clear hne
  go_loopw [13] (fun iv wr => ∃ i : Nat, i ≤ l.length ∧ iv = .int .i64 i ∧ Hid (l.take i = k.take i) ∧ Hid (St I M wr)) (fun iv _ => l.length - (intOf iv).toNat)
  case atStart => exact ⟨0, by omega, rfl, Lib.hid rfl, HS⟩
  case round =>
    obtain ⟨i, hi, rfl, hh, HSr⟩ := hrel
    clear HS
    by_cases hlt : i < l.length
    · have hlt2 : i < k.length := by omega
      obtain ⟨g, o, c', e1, hc⟩ := HA.out.at (by omega)
      obtain ⟨g2, o2, d', e2, hd⟩ := HB.out.at (by omega)
      injection e1 with e1
      injection e2 with e2
      subst e1 e2
      obtain ⟨y0, y1⟩ := hc M _ HSr.out i hlt
      obtain ⟨z0, z1⟩ := hd M _ HSr.out i hlt2
      have hx : l.take (i + 1) = k.take (i + 1) ↔ l[i] = k[i] := by
        rw [List.take_succ_eq_append_getElem hlt, List.take_succ_eq_append_getElem hlt2, hh.out]
        simp only [List.append_cancel_left_eq, List.cons.injEq, and_true]
      have HX := Lib.hid hx
      have hdec : l = k → l[i] = k[i] := fun e => by subst e; rfl
      have HD := Lib.hid hdec
      clear hx hdec hc hd hn
      obtain ⟨a, hae⟩ : ∃ a, a = l[i] := ⟨_, rfl⟩
      obtain ⟨b, hbe⟩ : ∃ b, b = k[i] := ⟨_, rfl⟩
      rw [← hae] at y0 y1 HX HD
      rw [← hbe] at z0 z1 HX HD
      clear hae hbe hh
      obtain ⟨an, av⟩ := a
      obtain ⟨bn, bv⟩ := b
      dsimp only at y0 y1 z0 z1
      by_cases h1 : an = bn
      · subst h1
        by_cases h2 : av = bv
        · subst h2
          go_upto_region 6 with fail
          go_quiet (fail)
          go_wp2
          go_roundw
          case rel => exact ⟨i + 1, by omega, by go_num, Lib.hid (HX.out.2 (by first | rfl | trivial)), Lib.hid (HSr.out.drewN _)⟩
          case measure => simp [intOf]; omega
        · have hq := bytes_ne h2
          go_upto_region 6 with fail
          go_quiet (fail)
          go_wp2
          go_returns
          exact Tells.no (HSr.out.drewN _) (fun e => by have := HD.out e; injection this with _ h; exact h2 h)
      · have hq := bytes_ne h1
        go_upto_region 6 with fail
        go_quiet (fail)
        go_wp2
        go_returns
        exact Tells.no (HSr.out.drewN _) (fun e => by have := HD.out e; injection this with h _; exact h1 h)
    · have hin : i = l.length := by omega
      have hlk : l = k := by
        have := hh.out
        rw [hin, List.take_length] at this
        rw [this, hn, List.take_length]
      have hgt : (l.length : Int) ≤ i := by omega
      clear hin hh
      have HLK := Lib.hid hlk
      clear hlk
      go_wp2
      go_returns
      exact Tells.yes HSr.out HLK.out
theorem size_alloc (W : World) (o : Obj) : (W.alloc o).heap.size = W.heap.size + 1 := Array.size_push ..
set_option maxRecDepth 8000 in
set_option maxHeartbeats 4000000 in
theorem samePartR (I : Img) (M : List Res) (w : World) (vA vB : Value) (x y : Pa) (hst : St I M w) (ha : Attrs I vA x.attrs) (hb : Attrs I vB y.attrs) (hl : x.attrs.length ≤ 4611686018427387904) (hk : y.attrs.length ≤ 4611686018427387904) :
    Calls Try.prog 24 #[.agg #[.string x.line, .string x.conn, vA], .agg #[.string y.line, .string y.conn, vB]] w (Tells I M (x = y)) := by
  have hs2 := (hst.alloc 58 #[.string x.line, .string x.conn, vA]).alloc 58 #[.string y.line, .string y.conn, vB]
  rw [size_alloc] at hs2
  obtain ⟨x0, x1, x2, _, _, _, hlX⟩ := Blk.three (show Blk _ w.heap.size 58 #[_, _, _] from hs2.at 1 rfl)
  obtain ⟨y0, y1, y2, _, _, _, hlY⟩ := Blk.three (show Blk _ (w.heap.size + 1) 58 #[_, _, _] from hs2.at 0 rfl)
  have HC := Lib.hid (sameAttrsR I M _ vA vB _ _ hs2.drop.drop ha hb hl hk)
  have HS := Lib.hid hs2.drop.drop
  clear hs2 hst ha hb
  obtain ⟨xl, xc, xa⟩ := x
  obtain ⟨yl, yc, ya⟩ := y
  dsimp only at *
  go_enter Try.func24, Try.ntmps24
  by_cases h1 : xl = yl
  rotate_left
  · have hq := bytes_ne h1
    go_wp2
    go_returns
    exact Tells.no HS.out (fun e => by injection e with e; exact h1 e)
  subst h1
  by_cases h2 : xc = yc
  rotate_left
  · have hq := bytes_ne h2
    go_wp2
    go_returns
    exact Tells.no HS.out (fun e => by injection e with _ e; exact h2 e)
  subst h2
  go_wp2_with (go_at_call 23; refine HC.out.mono ?_; rintro e w2 ⟨_, _, _, rfl, _, hs2, rfl, ⟨b, rfl, hb⟩, rfl⟩; have HB := Lib.hid hb; have HS2 := Lib.hid hs2; clear hb hs2)
  go_returns
  refine Ret.mk (.refl I) HS2.out ⟨rfl, ⟨b, rfl, ?_⟩, rfl⟩
  rw [HB.out]
  exact ⟨fun e => by rw [e], fun e => by injection e⟩
/-- the parts, one by one -/
theorem parts_take {a b : List (Pa × Value)} {i : Nat} (ha : i < a.length) (hb : i < b.length) (h : (partsOf a).take i = (partsOf b).take i) : (partsOf a).take (i + 1) = (partsOf b).take (i + 1) ↔ a[i].1 = b[i].1 := by
  have ha' : i < (partsOf a).length := by simpa [partsOf] using ha
  have hb' : i < (partsOf b).length := by simpa [partsOf] using hb
  rw [List.take_succ_eq_append_getElem ha', List.take_succ_eq_append_getElem hb', h]
  simp only [List.append_cancel_left_eq, List.cons.injEq, and_true]
  simp only [partsOf, List.getElem_map]
theorem sameKeep {w : World} {g1 g2 g o g2' o2 i : Nat} {c1 c2 : Array Value} {vP vQ a b c d e f : Value} (h1 : Blk w g1 26 c1) (h2 : Blk w g2 26 c2) (e1 : c1[4]? = some vP) (e2 : c2[4]? = some vQ)
    (h3 : w.cell? ⟨g, o + i * 3, none⟩ = some a ∧ w.cell? ⟨g, o + i * 3 + 1, none⟩ = some b ∧ w.cell? ⟨g, o + i * 3 + 2, none⟩ = some c)
    (h4 : w.cell? ⟨g2', o2 + i * 3, none⟩ = some d ∧ w.cell? ⟨g2', o2 + i * 3 + 1, none⟩ = some e ∧ w.cell? ⟨g2', o2 + i * 3 + 2, none⟩ = some f) :
    w.cell? ⟨g1, 4, none⟩ = some vP ∧ w.cell? ⟨g2, 4, none⟩ = some vQ ∧ (w.cell? ⟨g, o + i * 3, none⟩ = some a ∧ w.cell? ⟨g, o + i * 3 + 1, none⟩ = some b ∧ w.cell? ⟨g, o + i * 3 + 2, none⟩ = some c) ∧ (w.cell? ⟨g2', o2 + i * 3, none⟩ = some d ∧ w.cell? ⟨g2', o2 + i * 3 + 1, none⟩ = some e ∧ w.cell? ⟨g2', o2 + i * 3 + 2, none⟩ = some f) :=
  ⟨(h1.cell 4).trans e1, (h2.cell 4).trans e2, h3, h4⟩
set_option maxRecDepth 8000 in
set_option maxHeartbeats 8000000 in
theorem sameR (I : Img) (M : List Res) (w : World) (vA vP vB vQ : Value) (x y : Ss) (pv qv : List (Pa × Value)) (hst : St I M w) (ha : Ses I vA vP pv x) (hb : Ses I vB vQ qv y)
    (hl : x.attrs.length ≤ 4611686018427387904) (hk : y.attrs.length ≤ 4611686018427387904) (hp : pv.length ≤ 4611686018427387904) (hq : qv.length ≤ 4611686018427387904) (hpe : ∀ p ∈ pv, p.1.attrs.length ≤ 4611686018427387904) (hqe : ∀ p ∈ qv, p.1.attrs.length ≤ 4611686018427387904) :
    Calls Try.prog 11 #[.agg (head5 x vA vP), .agg (head5 y vB vQ)] w (Tells I M (x = y)) := by
  have hs2 := (hst.alloc 26 (head5 x vA vP)).alloc 26 (head5 y vB vQ)
  rw [size_alloc] at hs2
  have HA := Lib.hid ha
  have HB := Lib.hid hb
  have HPE := Lib.hid hpe
  have HQE := Lib.hid hqe
  have HC := Lib.hid (sameAttrsR I _ _ vA vB _ _ hs2 ha.attrs hb.attrs hl hk)
  have HS := Lib.hid hs2
  obtain ⟨hcX, hfX, hlX⟩ := Blk.all (hs2.at 1 rfl)
  obtain ⟨hcY, hfY, hlY⟩ := Blk.all (hs2.at 0 rfl)
  obtain ⟨A, c, rfl, _⟩ := ha.parts
  obtain ⟨B, d, rfl, _⟩ := hb.parts
  clear hs2 hst ha hb hpe hqe
  go_enter Try.func11, Try.ntmps11
  by_cases h1 : x.origin = y.origin
  rotate_left
  · have hq := bytes_ne h1
    go_wp2
    go_returns
    exact Tells.no HS.out.drop.drop (fun e => h1 (by rw [e]))
  have h1q : (x.origin.toList == y.origin.toList) = true := by rw [h1]; simp
  by_cases h2 : x.name = y.name
  rotate_left
  · have hq := bytes_ne h2
    go_wp2
    go_returns
    exact Tells.no HS.out.drop.drop (fun e => h2 (by rw [e]))
  have h2q : (x.name.toList == y.name.toList) = true := by rw [h2]; simp
  by_cases h3 : x.time = y.time
  rotate_left
  · have hq := bytes_ne h3
    go_wp2
    go_returns
    exact Tells.no HS.out.drop.drop (fun e => h3 (by rw [e]))
  have h3q : (x.time.toList == y.time.toList) = true := by rw [h3]; simp
  have HEQ := Lib.hid (And.intro h1 (And.intro h2 h3))
  clear h1 h2 h3
  by_cases h4 : x.attrs = y.attrs
  rotate_left
  · go_wp2_with (go_at_call 23; refine HC.out.mono ?_; rintro e w2 ⟨_, _, _, rfl, _, hs2, rfl, ⟨b, rfl, hb⟩, rfl⟩; obtain rfl : b = false := Bool.eq_false_iff.2 (fun e => h4 (hb.1 e)); have HS2 := Lib.hid hs2; clear hb hs2)
    go_returns
    exact Tells.no HS2.out.drop.drop (fun e => h4 (by rw [e]))
  by_cases h5 : pv.length = qv.length
  rotate_left
  · have hne : ((pv.length : Int) != (qv.length : Int)) = true := by simp; omega
    go_wp2_with (go_at_call 23; refine HC.out.mono ?_; clear hcX hfX hlX hcY hfY hlY; rintro e w2 ⟨_, _, _, rfl, _, hs2, rfl, ⟨b, rfl, hb⟩, rfl⟩; obtain rfl : b = true := hb.2 h4; obtain ⟨hcX, hfX, hlX⟩ := Blk.all (hs2.at 1 rfl); obtain ⟨hcY, hfY, hlY⟩ := Blk.all (hs2.at 0 rfl); have HS2 := Lib.hid hs2; clear hb hs2)
    go_returns
    exact Tells.no HS2.out.drop.drop (fun e => h5 (by
      have h1 : pv.length = x.parts.length := by rw [← HA.out.same]; simp [partsOf]
      have h2 : qv.length = y.parts.length := by rw [← HB.out.same]; simp [partsOf]
      rw [h1, h2, e]))
  have hne : ((pv.length : Int) != (qv.length : Int)) = false := by simp; omega
  have H4 := Lib.hid h4
  have H5 := Lib.hid h5
  clear h4 h5
  go_upto_region 4 with (go_at_call 23; refine HC.out.mono ?_; clear hcX hfX hlX hcY hfY hlY; rintro e w2 ⟨_, _, _, rfl, _, hs2, rfl, ⟨b, rfl, hb⟩, rfl⟩; obtain rfl : b = true := hb.2 H4.out; obtain ⟨hcX, hfX, hlX⟩ := Blk.all (hs2.at 1 rfl); obtain ⟨hcY, hfY, hlY⟩ := Blk.all (hs2.at 0 rfl); have HS2 := Lib.hid hs2; clear hb hs2)
  clear hne h1q h2q h3q HC HS hcX hfX hlX hcY hfY hlY
  go_loopw [45] (fun iv wr => ∃ i : Nat, i ≤ pv.length ∧ iv = .int .i64 i ∧ Hid ((partsOf pv).take i = (partsOf qv).take i) ∧ Hid (St I (bk (w.heap.size + 1) 26 (head5 y vB (.slice B qv.length d)) :: bk w.heap.size 26 (head5 x vA (.slice A pv.length c)) :: M) wr)) (fun iv _ => pv.length - (intOf iv).toNat)
  case atStart => exact ⟨0, by omega, rfl, Lib.hid rfl, HS2⟩
  case round =>
    obtain ⟨i, hi, rfl, hh, HSr⟩ := hrel
    clear HS2
    by_cases hlt : i < pv.length
    rotate_left
    · have hin : i = pv.length := by omega
      have hgt : (pv.length : Int) ≤ i := by omega
      have hpe : partsOf pv = partsOf qv := by
        have := hh.out
        rw [hin, List.take_of_length_le (by simp [partsOf]), H5.out, List.take_of_length_le (by simp [partsOf])] at this
        exact this
      have HPQ := Lib.hid hpe
      clear hpe hin hlt
      go_wp2
      go_returns
      refine Tells.yes HSr.out.drop.drop ?_
      have e1 := HA.out.same
      have e2 := HB.out.same
      have e3 := HEQ.out
      have e4 := H4.out
      rw [HPQ.out, e2] at e1
      cases x
      cases y
      simp only at e1 e3 e4
      obtain ⟨rfl, rfl, rfl⟩ := e3
      subst e4
      rw [e1]
    have hlt2 : i < qv.length := by have := H5.out; omega
    obtain ⟨g, o, c', e1, hc⟩ := HA.out.parts.at (by omega)
    obtain ⟨g2, o2, d', e2, hd⟩ := HB.out.parts.at (by omega)
    obtain ⟨e1, -, e3⟩ := Value.slice.inj e1
    obtain ⟨e2, -, e4⟩ := Value.slice.inj e2
    subst e1 e2 e3 e4
    have HD1 := Lib.hid (fun M w h => hc M w h i hlt)
    have HD2 := Lib.hid (fun M w h => hd M w h i hlt2)
    have HX := Lib.hid (parts_take hlt hlt2 hh.out)
    have HDF := Lib.hid (show x = y → pv[i].1 = qv[i].1 from fun e => by
      have h1 := HA.out.same
      have h2 := HB.out.same
      rw [← e, ← h1] at h2
      have h3 : (partsOf pv)[i]'(by simpa [partsOf] using hlt) = (partsOf qv)[i]'(by simpa [partsOf] using hlt2) := by simp only [h2]
      simpa [partsOf] using h3)
    have HP1 := Lib.hid (HA.out.each pv[i] (List.getElem_mem hlt))
    have HP2 := Lib.hid (HB.out.each qv[i] (List.getElem_mem hlt2))
    have hz1 := HPE.out pv[i] (List.getElem_mem hlt)
    have hz2 := HQE.out qv[i] (List.getElem_mem hlt2)
    obtain ⟨a, hae⟩ : ∃ a, a = pv[i] := ⟨_, rfl⟩
    obtain ⟨b, hbe⟩ : ∃ b, b = qv[i] := ⟨_, rfl⟩
    rw [← hae] at HX HDF HP1 hz1 HD1
    rw [← hbe] at HX HDF HP2 hz2 HD2
    clear hc hd hae hbe hh
    obtain ⟨⟨al, ac, aa⟩, av⟩ := a
    obtain ⟨⟨bl, bc, ba⟩, bv⟩ := b
    dsimp only at HX HDF HP1 HP2 hz1 hz2 HD1 HD2
    have hs := HSr.out
    clear HSr
    obtain ⟨aV, cV, rfl, _⟩ := HP1.out
    obtain ⟨bV, dV, rfl, _⟩ := HP2.out
    obtain ⟨hcX, hfX, hlX⟩ := Blk.all (hs.at 1 rfl)
    obtain ⟨hcY, hfY, hlY⟩ := Blk.all (hs.at 0 rfl)
    go_upto_region 6 with fail
    clear hcX hfX hlX hcY hfY hlY
    replace hs := hs.drew
    refine wp_region_held_drew (S := (fun w' => w'.cell? ⟨w.heap.size, 4, none⟩ = some (.slice (some ⟨g, o, none⟩) pv.length c) ∧ w'.cell? ⟨w.heap.size + 1, 4, none⟩ = some (.slice (some ⟨g2, o2, none⟩) qv.length d) ∧ (w'.cell? ⟨g, o + i * 3, none⟩ = some (.string al) ∧ w'.cell? ⟨g, o + i * 3 + 1, none⟩ = some (.string ac) ∧ w'.cell? ⟨g, o + i * 3 + 2, none⟩ = some (.slice aV aa.length cV)) ∧ (w'.cell? ⟨g2, o2 + i * 3, none⟩ = some (.string bl) ∧ w'.cell? ⟨g2, o2 + i * 3 + 1, none⟩ = some (.string bc) ∧ w'.cell? ⟨g2, o2 + i * 3 + 2, none⟩ = some (.slice bV ba.length dV)))) (by kernel_rfl) (by (try dsimp only); exact sameKeep (hs.at 1 rfl) (hs.at 0 rfl) rfl rfl (HD1.out _ _ hs) (HD2.out _ _ hs)) (fun hHeld => ?_)
    generalize World.drew _ = W at hs hHeld ⊢
    refine wpAnyH_take (i := 0) (oi := _) (v := ?_) rfl (by kernel_rfl) (by kernel_rfl) (by kernel_rfl) (fun _ _ _ h => h) (Or.inl ⟨by rfl, ?_⟩) (by assumption) ?_
    rotate_left
    · (intro w hSw; (try dsimp only at hSw); go_simp; try with_reducible rfl)
    try simp only [Act.put, List.getElem_toArray, List.getElem_cons_zero, List.getElem_cons_succ, List.setIfInBounds_toArray, List.set_cons_zero, List.set_cons_succ]
    refine wpAnyH_take (i := 1) (oi := _) (v := ?_) rfl (by kernel_rfl) (by kernel_rfl) (by kernel_rfl) (fun _ _ _ h => h) (Or.inl ⟨by rfl, ?_⟩) (by assumption) ?_
    rotate_left
    · (intro w hSw; (try dsimp only at hSw); go_simp; try with_reducible rfl)
    try simp only [Act.put, List.getElem_toArray, List.getElem_cons_zero, List.getElem_cons_succ, List.setIfInBounds_toArray, List.set_cons_zero, List.set_cons_succ]
    refine wpAnyH_take (i := 2) (oi := _) (v := ?_) rfl (by kernel_rfl) (by kernel_rfl) (by kernel_rfl) (fun _ _ _ h => h) (Or.inl ⟨by rfl, ?_⟩) (by assumption) ?_
    rotate_left
    · (intro w hSw; (try dsimp only at hSw); go_simp; try with_reducible rfl)
    try simp only [Act.put, List.getElem_toArray, List.getElem_cons_zero, List.getElem_cons_succ, List.setIfInBounds_toArray, List.set_cons_zero, List.set_cons_succ]
    refine wpAnyH_take (i := 3) (oi := _) (v := ?_) rfl (by kernel_rfl) (by kernel_rfl) (by kernel_rfl) (fun _ _ _ h => h) (Or.inl ⟨by rfl, ?_⟩) (by assumption) ?_
    rotate_left
    · (intro w hSw; (try dsimp only at hSw); go_simp; try with_reducible rfl)
    try simp only [Act.put, List.getElem_toArray, List.getElem_cons_zero, List.getElem_cons_succ, List.setIfInBounds_toArray, List.set_cons_zero, List.set_cons_succ]
    refine wpAnyH_take (i := 4) (oi := _) (v := ?_) rfl (by kernel_rfl) (by kernel_rfl) (by kernel_rfl) (fun _ _ _ h => h) (Or.inl ⟨by rfl, ?_⟩) (by assumption) ?_
    rotate_left
    · (intro w hSw; (try dsimp only at hSw); go_simp; try with_reducible rfl)
    try simp only [Act.put, List.getElem_toArray, List.getElem_cons_zero, List.getElem_cons_succ, List.setIfInBounds_toArray, List.set_cons_zero, List.set_cons_succ]
    refine wpAnyH_take (i := 5) (oi := _) (v := ?_) rfl (by kernel_rfl) (by kernel_rfl) (by kernel_rfl) (fun _ _ _ h => h) (Or.inl ⟨by rfl, ?_⟩) (by assumption) ?_
    rotate_left
    · (intro w hSw; (try dsimp only at hSw); go_simp; try with_reducible rfl)
    try simp only [Act.put, List.getElem_toArray, List.getElem_cons_zero, List.getElem_cons_succ, List.setIfInBounds_toArray, List.set_cons_zero, List.set_cons_succ]
    refine wpAnyH_take (i := 6) (oi := _) (v := ?_) rfl (by kernel_rfl) (by kernel_rfl) (by kernel_rfl) (fun _ _ _ h => h) (Or.inl ⟨by rfl, ?_⟩) (by assumption) ?_
    rotate_left
    · (intro w hSw; (try dsimp only at hSw); go_simp; try with_reducible rfl)
    try simp only [Act.put, List.getElem_toArray, List.getElem_cons_zero, List.getElem_cons_succ, List.setIfInBounds_toArray, List.set_cons_zero, List.set_cons_succ]
    refine wpAnyH_take (i := 7) (oi := _) (v := ?_) rfl (by kernel_rfl) (by kernel_rfl) (by kernel_rfl) (fun _ _ _ h => h) (Or.inl ⟨by rfl, ?_⟩) (by assumption) ?_
    rotate_left
    · (intro w hSw; (try dsimp only at hSw); go_simp; try with_reducible rfl)
    try simp only [Act.put, List.getElem_toArray, List.getElem_cons_zero, List.getElem_cons_succ, List.setIfInBounds_toArray, List.set_cons_zero, List.set_cons_succ]
    refine wpAnyH_take (i := 8) (oi := _) (v := ?_) rfl (by kernel_rfl) (by kernel_rfl) (by kernel_rfl) (fun _ _ _ h => h) (Or.inl ⟨by rfl, ?_⟩) (by assumption) ?_
    rotate_left
    · (intro w hSw; (try dsimp only at hSw); go_simp; try with_reducible rfl)
    try simp only [Act.put, List.getElem_toArray, List.getElem_cons_zero, List.getElem_cons_succ, List.setIfInBounds_toArray, List.set_cons_zero, List.set_cons_succ]
    refine wpAnyH_take (i := 9) (oi := _) (v := ?_) rfl (by kernel_rfl) (by kernel_rfl) (by kernel_rfl) (fun _ _ _ h => h) (Or.inl ⟨by rfl, ?_⟩) (by assumption) ?_
    rotate_left
    · (intro w hSw; (try dsimp only at hSw); go_simp; try with_reducible rfl)
    try simp only [Act.put, List.getElem_toArray, List.getElem_cons_zero, List.getElem_cons_succ, List.setIfInBounds_toArray, List.set_cons_zero, List.set_cons_succ]
    refine wpAnyH_ready (rs := [10]) (by kernel_rfl) (by simp) ?_
    refine (AllReadyH.cons (o := _) rfl (fun K hK => ?_) AllReadyH.nil)
    go_simp
    refine (samePartR I _ W (.slice aV aa.length cV) (.slice bV ba.length dV) ⟨al, ac, aa⟩ ⟨bl, bc, ba⟩ hs HP1.out HP2.out hz1 hz2).mono ?_
    clear hs
    rintro e w4 ⟨_, _, _, rfl, _, hs, rfl, ⟨b, rfl, hb⟩, rfl⟩
    have HB4 := Lib.hid hb
    clear hb
    try clear hHeld
    refine hK.out _ _ (by (try dsimp only); exact sameKeep (hs.at 1 rfl) (hs.at 0 rfl) rfl rfl (HD1.out _ _ hs) (HD2.out _ _ hs)) (fun hHeld => ?_)
    clear hK K
    try simp only [Act.put, List.getElem_toArray, List.getElem_cons_zero, List.getElem_cons_succ, List.setIfInBounds_toArray, List.set_cons_zero, List.set_cons_succ]
    refine wpAnyH_take (i := 11) (oi := _) (v := ?_) rfl (by kernel_rfl) (by kernel_rfl) (by kernel_rfl) (fun _ _ _ h => h) (Or.inl ⟨by rfl, ?_⟩) (by assumption) ?_
    rotate_left
    · (intro w hSw; (try dsimp only at hSw); go_simp; try with_reducible rfl)
    try simp only [Act.put, List.getElem_toArray, List.getElem_cons_zero, List.getElem_cons_succ, List.setIfInBounds_toArray, List.set_cons_zero, List.set_cons_succ]
    refine wpAnyH_done (by kernel_rfl) ?_ _
    have HS5 := Lib.hid hs
    clear hs
    cases b
    · have hno := Lib.hid (show ¬ x = y from fun e => by have := HB4.out.2 (HDF.out e); cases this)
      clear HB4 HDF HX
      go_wp2
      go_returns
      exact Tells.no HS5.out.drop.drop hno.out
    · have hx := HX.out.2 (HB4.out.1 rfl)
      have HX2 := Lib.hid hx
      clear hx HB4 HDF HX
      go_wp2
      go_roundw
      case rel => exact ⟨i + 1, by omega, by go_num, HX2, HS5⟩
      case measure => simp [intOf]; omega
end Go.Proofs.Ytpbbincgddmbiaa
