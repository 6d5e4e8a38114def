/- frame.read: a VP8 payload is head. -/
import Derived.Test.YtaemohkmingnpaaRd
namespace Go.Proofs.Ytaemohkmingnpaa
open Go.RowKit
set_option linter.unusedSimpArgs false
def tb (c : UInt8) (m : Int) : Bool := bits BinOp.and IntKind.u8 c.toNat m != 0
def vpX (c : UInt8) : Int := (if tb c 64 then 1 else 0) + (if tb c 48 then 1 else 0)
/-- where the picture's number stands, its bytes, where the data begin, and whether it is whole -/
def vpR (b : List UInt8) : Int × Int × Int × Bool := match b with
  | [] => (0, 0, 0, false)
  | b0 :: r => if tb b0 128 then (match r with
    | [] => (0, 0, 0, false)
    | b1 :: r1 => if tb b1 128 then (match r1 with
      | [] => (0, 0, 0, false)
      | b2 :: _ => (2, (if tb b2 128 then 2 else 1), 2 + (if tb b2 128 then 2 else 1) + vpX b1, decide (2 + (if tb b2 128 then 2 else 1) + vpX b1 < b.length)))
      else (0, 0, 2 + vpX b1, decide (2 + vpX b1 < b.length)))
    else (0, 0, 1, decide (1 < (b.length : Int)))
def vpV (x : Int × Int × Int × Bool) : Value := .tuple #[.int .i64 x.1, .int .i64 x.2.1, .int .i64 x.2.2.1, .bool x.2.2.2]
theorem ret_eq {v v' : Value} (h : v = v') : Ending.returned v = .returned v' := by rw [h]
set_option maxHeartbeats 1000000 in
theorem vp8r (I : Img) (M : List Res) (w : World) (A : Option Addr) (c : Nat) (b : List UInt8) (hst : St I M w) (hb : Byts I A b) (hl : b.length ≤ 140737488351232) :
    Calls Try.prog 28 #[.slice A b.length c] w fun e w' => e = .returned (vpV (vpR b)) ∧ w = w' := by
  rcases b with _ | ⟨b0, r⟩
  · clear hst hb
    go_enter Try.func28, Try.ntmps28
    go_wp2
    go_returns
    exact ⟨rfl, rfl⟩
  obtain ⟨g, o, rfl, z0, hb1⟩ := hb.at0
  replace z0 := z0 M w hst
  rcases r with _ | ⟨b1, r⟩
  · clear hst hb hb1
    go_enter Try.func28, Try.ntmps28
    go_wp2
    all_goals
      go_returns
      exact ⟨ret_eq (by simp [vpV, vpR, tb, *]), rfl⟩
  obtain ⟨g, o, e, z1, hb2⟩ := hb1.at0
  cases e
  replace z1 := z1 M w hst
  rcases r with _ | ⟨b2, r⟩
  · clear hst hb hb1 hb2
    go_enter Try.func28, Try.ntmps28
    go_wp2
    all_goals
      go_returns
      exact ⟨ret_eq (by simp [vpV, vpR, vpX, tb, *]), rfl⟩
  · obtain ⟨g, o, e, z2, hb3⟩ := hb2.at0
    cases e
    replace z2 := z2 M w hst
    clear hst hb hb1 hb2 hb3
    go_enter Try.func28, Try.ntmps28
    go_wp2
    all_goals
      go_returns
      exact ⟨ret_eq (by simp [vpV, vpR, vpX, tb, *]), rfl⟩
set_option maxHeartbeats 400000 in
theorem placeC {I : Img} {M : List Res} {w : World} (pb pr p : Nat) (A : Option Addr) (n c : Nat) (r : RS) (b : Res) (hst : St I (b :: M) w) (h : Rdr I p r b) (hn : n ≤ 140737488351232) (hl : r.1.length ≤ 140737488351232) (hb : w.cell? ⟨pb, 0, none⟩ = some (.slice A n c)) (hr : w.cell? ⟨pr, 0, none⟩ = some (.pointer (some ⟨p, 0, none⟩))) :
    Calls Try.prog 35 #[.pointer (some ⟨pb, 0, none⟩), .pointer (some ⟨pr, 0, none⟩)] w fun e w' => e = .returned (.int .i64 ((n : Int) - r.1.length)) ∧ St I (b :: M) w' := by
  have Hst := Lib.hid hst
  have Hh := Lib.hid h
  clear h hst
  go_enter Try.func35, Try.ntmps35
  go_wp2
  go_quiet ((go_at_call 36; exact Calls.quiet_of_same ((rd_left p r b (Hst.out.drewN _) Hh.out).mono fun _ _ ⟨h1, h2⟩ => ⟨h1, h2.symm⟩)))
  go_wp2
  go_returns
  exact ⟨rfl, Hst.out.drewN _⟩
def vpF (b : List UInt8) : RS × Int × Int :=
  let s1 := nx (b, false)
  let m := u8 s1
  let s2 := nx s1
  let t := if tb m 128 then (if tb (u8 s2) 128 then (nx (nx s2), (b.length : Int) - s2.1.length, (15 : Int)) else (nx s2, (b.length : Int) - s2.1.length, 7)) else (s2, 0, 0)
  let s4 := if tb m 64 then nx t.1 else t.1
  if tb (u8 (b, false)) 128 then ((if tb m 48 then nx s4 else s4), t.2.1, t.2.2) else (s1, 0, 0)
theorem nx_left (r : RS) : (nx r).1.length ≤ r.1.length := cutS_left 1 r
def begB (b : List UInt8) : Bool := bits BinOp.and IntKind.u8 (u8 (b, false)).toNat 23 == 16
def ReadCut (J : Img) (M : List Res) (b : List UInt8) (p q0 q1 q2 : Nat) (v : Value) (wx : World) : Prop :=
  ∃ br, St J (br :: bk q2 84 #[.pointer (some ⟨p, 0, none⟩)] :: bk q1 77 #[.bool (begB b), .int .i64 (vpF b).2.1, .int .i64 (vpF b).2.2, .int .i64 0] :: bk q0 34 #[v] :: M) wx ∧ Rdr J p (vpF b).1 br
theorem ReadCut.mk {J : Img} {M : List Res} {b : List UInt8} {p q0 q1 q2 : Nat} {v : Value} {wx : World} {br : Res} {s : RS} {x y : Int} {cs : Array Value} (e : vpF b = (s, x, y)) (hst : St J (br :: bk q2 84 #[.pointer (some ⟨p, 0, none⟩)] :: bk q1 77 cs :: bk q0 34 #[v] :: M) wx) (hR : Rdr J p s br)
    (hc : cs = #[.bool (begB b), .int .i64 x, .int .i64 y, .int .i64 0]) : ReadCut J M b p q0 q1 q2 v wx := by
  refine ⟨br, ?_, by rw [e]; exact hR⟩
  rw [e]; rw [hc] at hst; exact hst
theorem vpF_left (b : List UInt8) : (vpF b).1.1.length ≤ b.length := by
  have h1 := nx_left (b, false)
  have h2 := nx_left (nx (b, false))
  have h3 := nx_left (nx (nx (b, false)))
  have h4 := nx_left (nx (nx (nx (b, false))))
  have h5 := nx_left (nx (nx (nx (nx (b, false)))))
  have h6 := nx_left (nx (nx (nx (nx (nx (b, false))))))
  simp only at h1
  unfold vpF
  simp only []
  repeat' split
  all_goals (simp only []; omega)
theorem keepH {J : Img} {M : List Res} {w : World} {q1 q2 T U : Nat} {a b c d e : Value} {rb br : Res} {cs : Array Value} (h : St J (bk q1 T cs :: rb :: br :: M) w) (hc : cs = #[a, b, c, d]) (hr : rb = bk q2 U #[e]) :
    w.cell? ⟨q1, 0, none⟩ = some a ∧ w.cell? ⟨q1, 1, none⟩ = some b ∧ w.cell? ⟨q1, 2, none⟩ = some c ∧ w.cell? ⟨q1, 3, none⟩ = some d ∧ w.cell? ⟨q2, 0, none⟩ = some e := by
  subst hc hr
  obtain ⟨h0, h1, h2, h3, _⟩ := Blk.four (h.at 0 rfl)
  exact ⟨h0, h1, h2, h3, (Blk.one (h.at 1 rfl)).1⟩
theorem res14 (w : World) (q1 : Nat) (B : Bool) (A N D : Int) (ok : Bool) (tmps : Array Value) (ht : tmps[2]? = some (.pointer (some ⟨q1, 0, none⟩))) (h3 : tmps[3]? = some (.bool ok))
    (c0 : w.cell? ⟨q1, 0, none⟩ = some (.bool B)) (c1 : w.cell? ⟨q1, 1, none⟩ = some (.int .i64 A)) (c2 : w.cell? ⟨q1, 2, none⟩ = some (.int .i64 N)) (c3 : w.cell? ⟨q1, 3, none⟩ = some (.int .i64 D)) :
    (results Try.f29 tmps).run Try.prog w = .ok (.tuple #[.agg #[.bool B, .int .i64 A, .int .i64 N, .int .i64 D], .bool ok]) w := by
  simp [results, Try.results29, go_sem, ht, h3, c0, c1, c2, c3]
def rdV (b : List UInt8) : Value := .tuple #[.agg #[.bool (begB b), .int .i64 (vpF b).2.1, .int .i64 (vpF b).2.2, .int .i64 ((b.length : Int) - (vpF b).1.1.length)], .bool (!(vpF b).1.2 && decide (0 < (vpF b).1.1.length))]
set_option maxHeartbeats 2000000 in
theorem readP (I : Img) (M : List Res) (w : World) (A : Option Addr) (c : Nat) (b : List UInt8) (hst : St I M w) (hb : Byts I A b) (hl : b.length ≤ 140737488351232) :
    Calls Try.prog 29 #[.slice A b.length c] w (Ret I (fun v _ M' => v = rdV b ∧ M' = M)) := by
  have hst1 := ((hst.alloc 34 #[.slice A b.length c]).alloc 77 #[.bool false, .int .i64 0, .int .i64 0, .int .i64 0])
  simp only [World.size_alloc] at hst1
  have HB := Lib.hid hb
  have l1 := nx_left (b, false)
  have l2 := nx_left (nx (b, false))
  have l3 := nx_left (nx (nx (b, false)))
  clear hst hb
  go_enter Try.func29, Try.ntmps29
  go_wp2_with fail
  refine (rd_new A c b hst1 HB.out hl).mono ?_
  clear hst1
  rintro e w1 ⟨_, J, _, rfl, hle, hst, p, br, rfl, hR, rfl⟩
  have hne : w.heap.size + 1 < w1.heap.size := Blk.lt (hst.at 1 rfl)
  have hne0 : w.heap.size < w1.heap.size := by omega
  replace hst := ((hst.alloc 84 #[.pointer (some ⟨p, 0, none⟩)]).swap1)
  obtain ⟨h0, h1, h2, h3, hf0, hf1, hf2, hf3, hlt⟩ := (hst.at 2 rfl).four
  obtain ⟨hr, hrf, hrl⟩ := (hst.at 1 rfl).one
  go_upto_if 19 with (first | (go_at_call 37; refine (rd_byte p _ _ (by first | exact hst | exact (hst.swap2.set _ _).swap2 | exact ((hst.swap2.set _ _).set _ _).swap2) hR).mono ?_; clear hst hR h0 h1 h2 h3 hf0 hf1 hf2 hf3 hlt hr hrf hrl; rintro e w2 ⟨_, J2, M2, rfl, -, hst, rfl, rfl, br2, hR, rfl⟩; obtain ⟨h0, h1, h2, h3, hf0, hf1, hf2, hf3, hlt⟩ := (hst.at 2 rfl).four; obtain ⟨hr, hrf, hrl⟩ := (hst.at 1 rfl).one) | (go_at_call 35; refine (placeC _ _ p A b.length c _ _ (by first | exact hst | exact (hst.swap2.set _ _).swap2 | exact ((hst.swap2.set _ _).set _ _).swap2) hR hl (by omega) (Blk.one (hst.at 3 rfl)).1 (Blk.one (hst.at 1 rfl)).1).mono ?_; clear hst h0 h1 h2 h3 hf0 hf1 hf2 hf3 hlt hr hrf hrl; rintro e w2 ⟨rfl, hst⟩; obtain ⟨h0, h1, h2, h3, hf0, hf1, hf2, hf3, hlt⟩ := (hst.at 2 rfl).four; obtain ⟨hr, hrf, hrl⟩ := (hst.at 1 rfl).one))
  go_cut [7] (fun _ wx => ReadCut J M b p w.heap.size (w.heap.size + 1) w1.heap.size (.slice A b.length c) wx)
  case first =>
    go_wp2_with (first | (go_at_call 37; refine (rd_byte p _ _ (by first | exact hst | exact (hst.swap2.set _ _).swap2 | exact ((hst.swap2.set _ _).set _ _).swap2) hR).mono ?_; clear hst hR h0 h1 h2 h3 hf0 hf1 hf2 hf3 hlt hr hrf hrl; rintro e w2 ⟨_, J2, M2, rfl, -, hst, rfl, rfl, br2, hR, rfl⟩; obtain ⟨h0, h1, h2, h3, hf0, hf1, hf2, hf3, hlt⟩ := (hst.at 2 rfl).four; obtain ⟨hr, hrf, hrl⟩ := (hst.at 1 rfl).one) | (go_at_call 35; refine (placeC _ _ p A b.length c _ _ (by first | exact hst | exact (hst.swap2.set _ _).swap2 | exact ((hst.swap2.set _ _).set _ _).swap2) hR hl (by omega) (Blk.one (hst.at 3 rfl)).1 (Blk.one (hst.at 1 rfl)).1).mono ?_; clear hst h0 h1 h2 h3 hf0 hf1 hf2 hf3 hlt hr hrf hrl; rintro e w2 ⟨rfl, hst⟩; obtain ⟨h0, h1, h2, h3, hf0, hf1, hf2, hf3, hlt⟩ := (hst.at 2 rfl).four; obtain ⟨hr, hrf, hrl⟩ := (hst.at 1 rfl).one))
    all_goals (go_meet; refine ReadCut.mk (by (simp only [vpF, tb, *, if_true, Bool.false_eq_true, if_false]); (try rfl)) (by first | exact hst | exact (hst.swap2.set _ _).swap2 | exact ((hst.swap2.set _ _).set _ _).swap2) hR ?_; rfl)
  case rest =>
    clear hst hR h0 h1 h2 h3 hf0 hf1 hf2 hf3 hlt hr hrf hrl
    obtain ⟨br, hst, hR⟩ := hcut
    obtain ⟨h0, h1, h2, h3, hf0, hf1, hf2, hf3, hlt⟩ := (hst.at 2 rfl).four
    obtain ⟨hr, hrf, hrl⟩ := (hst.at 1 rfl).one
    have hzl := vpF_left b
    have hz0 : rdV b = rdV b := rfl
    conv at hz0 => rhs; unfold rdV
    have HZ := Lib.hid hz0
    clear hz0
    generalize vpF b = z at *
    go_upto_region 17 with (first | (go_at_call 37; refine (rd_byte p _ _ (by first | exact hst | exact (hst.swap2.set _ _).swap2 | exact ((hst.swap2.set _ _).set _ _).swap2) hR).mono ?_; clear hst hR h0 h1 h2 h3 hf0 hf1 hf2 hf3 hlt hr hrf hrl; rintro e w2 ⟨_, J2, M2, rfl, -, hst, rfl, rfl, br2, hR, rfl⟩; obtain ⟨h0, h1, h2, h3, hf0, hf1, hf2, hf3, hlt⟩ := (hst.at 2 rfl).four; obtain ⟨hr, hrf, hrl⟩ := (hst.at 1 rfl).one) | (go_at_call 35; refine (placeC _ _ p A b.length c _ _ (by first | exact hst | exact (hst.swap2.set _ _).swap2 | exact ((hst.swap2.set _ _).set _ _).swap2) hR hl (by omega) (Blk.one (hst.at 3 rfl)).1 (Blk.one (hst.at 1 rfl)).1).mono ?_; clear hst h0 h1 h2 h3 hf0 hf1 hf2 hf3 hlt hr hrf hrl; rintro e w2 ⟨rfl, hst⟩; obtain ⟨h0, h1, h2, h3, hf0, hf1, hf2, hf3, hlt⟩ := (hst.at 2 rfl).four; obtain ⟨hr, hrf, hrl⟩ := (hst.at 1 rfl).one))
    have hst2 := (hst.swap2.set 3 (.int .i64 ((b.length : Int) - z.1.1.length))).swap2
    generalize World.setCell _ _ _ = wz at hst2 ⊢
    clear hst h0 h1 h2 h3 hf0 hf1 hf2 hf3 hlt hr hrf hrl
    obtain ⟨h0, h1, h2, h3, hf0, hf1, hf2, hf3, hlt⟩ := (hst2.at 2 rfl).four
    obtain ⟨hr, hrf, hrl⟩ := (hst2.at 1 rfl).one
    obtain ⟨⟨l, bad⟩, x, y⟩ := z
    simp only [] at *
    cases bad
    ·
      refine wp_region_held_drew (S := (fun w' => w'.cell? ⟨w.heap.size + 1, 0, none⟩ = some (.bool (begB b)) ∧ w'.cell? ⟨w.heap.size + 1, 1, none⟩ = some (.int .i64 x) ∧ w'.cell? ⟨w.heap.size + 1, 2, none⟩ = some (.int .i64 y) ∧ w'.cell? ⟨w.heap.size + 1, 3, none⟩ = some (.int .i64 ((b.length : Int) - l.length)) ∧ w'.cell? ⟨w1.heap.size, 0, none⟩ = some (.pointer (some ⟨p, 0, none⟩)))) (by kernel_rfl) (by (try dsimp only); first | exact keepH hst2.swap2.drew rfl rfl | exact keepH ((((hst2.swap2.set _ _).set _ _).set _ _).set _ _).drew rfl rfl) (fun hHeld => ?_)
      refine wpAnyH_take (i := 0) (oi := _) (v := ?_) rfl (by kernel_rfl) (by kernel_rfl) (by kernel_rfl) (fun _ _ _ h => h) (Or.inl ⟨by rfl, ?_⟩) (by assumption) ?_
      rotate_left
      · (intro w hSw; (try dsimp only at hSw); go_simp; try with_reducible rfl)
      try simp only [Act.put, List.getElem_toArray, List.getElem_cons_zero, List.getElem_cons_succ, List.setIfInBounds_toArray, List.set_cons_zero, List.set_cons_succ]
      refine wpAnyH_take (i := 1) (oi := _) (v := ?_) rfl (by kernel_rfl) (by kernel_rfl) (by kernel_rfl) (fun _ _ _ h => h) (Or.inl ⟨by rfl, ?_⟩) (by assumption) ?_
      rotate_left
      · (intro w hSw; (try dsimp only at hSw); go_simp; try with_reducible rfl)
      try simp only [Act.put, List.getElem_toArray, List.getElem_cons_zero, List.getElem_cons_succ, List.setIfInBounds_toArray, List.set_cons_zero, List.set_cons_succ]
      refine wpAnyH_ready (rs := [2]) (by kernel_rfl) (by simp) ?_
      refine AllReadyH.cons (o := _) rfl (fun K hK => ?_) AllReadyH.nil
      go_simp
      refine (rd_bad p _ _ hst2.drew hR).mono ?_; rintro e w' ⟨rfl, rfl⟩; try dsimp only
      refine hK.out _ _ (by (try dsimp only); first | exact keepH hst2.swap2.drew rfl rfl | exact keepH ((((hst2.swap2.set _ _).set _ _).set _ _).set _ _).drew rfl rfl) (fun hHeld => ?_)
      clear hK K
      try simp only [Act.put, List.getElem_toArray, List.getElem_cons_zero, List.getElem_cons_succ, List.setIfInBounds_toArray, List.set_cons_zero, List.set_cons_succ]
      refine wpAnyH_take (i := 3) (oi := _) (v := ?_) rfl (by kernel_rfl) (by kernel_rfl) (by kernel_rfl) (fun _ _ _ h => h) (Or.inl ⟨by rfl, ?_⟩) (by assumption) ?_
      rotate_left
      · (intro w hSw; (try dsimp only at hSw); go_simp; try with_reducible rfl)
      try simp only [Act.put, List.getElem_toArray, List.getElem_cons_zero, List.getElem_cons_succ, List.setIfInBounds_toArray, List.set_cons_zero, List.set_cons_succ]
      refine wpAnyH_take (i := 4) (oi := _) (v := ?_) rfl (by kernel_rfl) (by kernel_rfl) (by kernel_rfl) (fun _ _ _ h => h) (Or.inl ⟨by rfl, ?_⟩) (by assumption) ?_
      rotate_left
      · (intro w hSw; (try dsimp only at hSw); go_simp; try with_reducible rfl)
      try simp only [Act.put, List.getElem_toArray, List.getElem_cons_zero, List.getElem_cons_succ, List.setIfInBounds_toArray, List.set_cons_zero, List.set_cons_succ]
      refine wpAnyH_take (i := 5) (oi := _) (v := ?_) rfl (by kernel_rfl) (by kernel_rfl) (by kernel_rfl) (fun _ _ _ h => h) (Or.inl ⟨by rfl, ?_⟩) (by assumption) ?_
      rotate_left
      · (intro w hSw; (try dsimp only at hSw); go_simp; try with_reducible rfl)
      try simp only [Act.put, List.getElem_toArray, List.getElem_cons_zero, List.getElem_cons_succ, List.setIfInBounds_toArray, List.set_cons_zero, List.set_cons_succ]
      refine wpAnyH_ready (rs := [6]) (by kernel_rfl) (by simp) ?_
      refine AllReadyH.cons (o := _) rfl (fun K hK => ?_) AllReadyH.nil
      go_simp
      refine (rd_left p _ _ hst2.drew hR).mono ?_; rintro e w' ⟨rfl, rfl⟩; try dsimp only
      refine hK.out _ _ (by (try dsimp only); first | exact keepH hst2.swap2.drew rfl rfl | exact keepH ((((hst2.swap2.set _ _).set _ _).set _ _).set _ _).drew rfl rfl) (fun hHeld => ?_)
      clear hK K
      try simp only [Act.put, List.getElem_toArray, List.getElem_cons_zero, List.getElem_cons_succ, List.setIfInBounds_toArray, List.set_cons_zero, List.set_cons_succ]
      refine wpAnyH_take (i := 7) (oi := _) (v := ?_) rfl (by kernel_rfl) (by kernel_rfl) (by kernel_rfl) (fun _ _ _ h => h) (Or.inl ⟨by rfl, ?_⟩) (by assumption) ?_
      rotate_left
      · (intro w hSw; (try dsimp only at hSw); go_simp; try with_reducible rfl)
      try simp only [Act.put, List.getElem_toArray, List.getElem_cons_zero, List.getElem_cons_succ, List.setIfInBounds_toArray, List.set_cons_zero, List.set_cons_succ]
      refine wpAnyH_take (i := 8) (oi := _) (v := ?_) rfl (by kernel_rfl) (by kernel_rfl) (by kernel_rfl) (fun _ _ _ h => h) (Or.inl ⟨by rfl, ?_⟩) (by assumption) ?_
      rotate_left
      · (intro w hSw; (try dsimp only at hSw); go_simp; try with_reducible rfl)
      try simp only [Act.put, List.getElem_toArray, List.getElem_cons_zero, List.getElem_cons_succ, List.setIfInBounds_toArray, List.set_cons_zero, List.set_cons_succ]
      refine wpAnyH_ready (rs := [9]) (by kernel_rfl) (by simp) ?_
      refine AllReadyH.cons (o := _) rfl (fun K hK => ?_) AllReadyH.nil
      go_simp
      refine hK.out _ _ (by (try dsimp only); first | exact keepH hst2.swap2.drew rfl rfl | exact keepH ((((hst2.swap2.set _ _).set _ _).set _ _).set _ _).drew rfl rfl) (fun hHeld => ?_)
      clear hK K
      try simp only [Act.put, List.getElem_toArray, List.getElem_cons_zero, List.getElem_cons_succ, List.setIfInBounds_toArray, List.set_cons_zero, List.set_cons_succ]
      refine wpAnyH_take (i := 10) (oi := _) (v := ?_) rfl (by kernel_rfl) (by kernel_rfl) (by kernel_rfl) (fun _ _ _ h => h) (Or.inl ⟨by rfl, ?_⟩) (by assumption) ?_
      rotate_left
      · (intro w hSw; (try dsimp only at hSw); go_simp; try with_reducible rfl)
      try simp only [Act.put, List.getElem_toArray, List.getElem_cons_zero, List.getElem_cons_succ, List.setIfInBounds_toArray, List.set_cons_zero, List.set_cons_succ]
      refine wpAnyH_done (by kernel_rfl) ?_ _
      go_wp2
      have hst3 := ((((hst2.swap2.set 0 (.bool (begB b))).set 1 (.int .i64 x)).set 2 (.int .i64 y)).set 3 (.int .i64 ((b.length : Int) - l.length))).drew
      have hK := keepH hst3 rfl rfl
      refine bodyPost_ret (res14 _ _ _ _ _ _ _ _ rfl rfl hK.1 hK.2.1 hK.2.2.1 hK.2.2.2.1) rfl ?_
      exact Ret.mk hle hst3.drop.drop.drop.drop ⟨HZ.out.symm, rfl⟩
    ·
      refine wp_region_held_drew (S := (fun w' => w'.cell? ⟨w.heap.size + 1, 0, none⟩ = some (.bool (begB b)) ∧ w'.cell? ⟨w.heap.size + 1, 1, none⟩ = some (.int .i64 x) ∧ w'.cell? ⟨w.heap.size + 1, 2, none⟩ = some (.int .i64 y) ∧ w'.cell? ⟨w.heap.size + 1, 3, none⟩ = some (.int .i64 ((b.length : Int) - l.length)) ∧ w'.cell? ⟨w1.heap.size, 0, none⟩ = some (.pointer (some ⟨p, 0, none⟩)))) (by kernel_rfl) (by (try dsimp only); first | exact keepH hst2.swap2.drew rfl rfl | exact keepH ((((hst2.swap2.set _ _).set _ _).set _ _).set _ _).drew rfl rfl) (fun hHeld => ?_)
      refine wpAnyH_take (i := 0) (oi := _) (v := ?_) rfl (by kernel_rfl) (by kernel_rfl) (by kernel_rfl) (fun _ _ _ h => h) (Or.inl ⟨by rfl, ?_⟩) (by assumption) ?_
      rotate_left
      · (intro w hSw; (try dsimp only at hSw); go_simp; try with_reducible rfl)
      try simp only [Act.put, List.getElem_toArray, List.getElem_cons_zero, List.getElem_cons_succ, List.setIfInBounds_toArray, List.set_cons_zero, List.set_cons_succ]
      refine wpAnyH_take (i := 1) (oi := _) (v := ?_) rfl (by kernel_rfl) (by kernel_rfl) (by kernel_rfl) (fun _ _ _ h => h) (Or.inl ⟨by rfl, ?_⟩) (by assumption) ?_
      rotate_left
      · (intro w hSw; (try dsimp only at hSw); go_simp; try with_reducible rfl)
      try simp only [Act.put, List.getElem_toArray, List.getElem_cons_zero, List.getElem_cons_succ, List.setIfInBounds_toArray, List.set_cons_zero, List.set_cons_succ]
      refine wpAnyH_ready (rs := [2]) (by kernel_rfl) (by simp) ?_
      refine AllReadyH.cons (o := _) rfl (fun K hK => ?_) AllReadyH.nil
      go_simp
      refine (rd_bad p _ _ hst2.drew hR).mono ?_; rintro e w' ⟨rfl, rfl⟩; try dsimp only
      refine hK.out _ _ (by (try dsimp only); first | exact keepH hst2.swap2.drew rfl rfl | exact keepH ((((hst2.swap2.set _ _).set _ _).set _ _).set _ _).drew rfl rfl) (fun hHeld => ?_)
      clear hK K
      try simp only [Act.put, List.getElem_toArray, List.getElem_cons_zero, List.getElem_cons_succ, List.setIfInBounds_toArray, List.set_cons_zero, List.set_cons_succ]
      refine wpAnyH_take (i := 3) (oi := _) (v := ?_) rfl (by kernel_rfl) (by kernel_rfl) (by kernel_rfl) (fun _ _ _ h => h) (Or.inl ⟨by rfl, ?_⟩) (by assumption) ?_
      rotate_left
      · (intro w hSw; (try dsimp only at hSw); go_simp; try with_reducible rfl)
      try simp only [Act.put, List.getElem_toArray, List.getElem_cons_zero, List.getElem_cons_succ, List.setIfInBounds_toArray, List.set_cons_zero, List.set_cons_succ]
      refine wpAnyH_take (i := 4) (oi := _) (v := ?_) rfl (by kernel_rfl) (by kernel_rfl) (by kernel_rfl) (fun _ _ _ h => h) (Or.inl ⟨by rfl, ?_⟩) (by assumption) ?_
      rotate_left
      · (intro w hSw; (try dsimp only at hSw); go_simp; try with_reducible rfl)
      try simp only [Act.put, List.getElem_toArray, List.getElem_cons_zero, List.getElem_cons_succ, List.setIfInBounds_toArray, List.set_cons_zero, List.set_cons_succ]
      refine wpAnyH_take (i := 5) (oi := _) (v := undef) rfl (by kernel_rfl) (by kernel_rfl) (by kernel_rfl) (fun _ _ _ h => h) (Or.inr ⟨by rfl, rfl⟩) (by assumption) ?_
      try simp only [Act.put, List.getElem_toArray, List.getElem_cons_zero, List.getElem_cons_succ, List.setIfInBounds_toArray, List.set_cons_zero, List.set_cons_succ]
      refine wpAnyH_take (i := 6) (oi := _) (v := undef) rfl (by kernel_rfl) (by kernel_rfl) (by kernel_rfl) (fun _ _ _ h => h) (Or.inr ⟨by rfl, rfl⟩) (by assumption) ?_
      try simp only [Act.put, List.getElem_toArray, List.getElem_cons_zero, List.getElem_cons_succ, List.setIfInBounds_toArray, List.set_cons_zero, List.set_cons_succ]
      refine wpAnyH_take (i := 7) (oi := _) (v := undef) rfl (by kernel_rfl) (by kernel_rfl) (by kernel_rfl) (fun _ _ _ h => h) (Or.inr ⟨by rfl, rfl⟩) (by assumption) ?_
      try simp only [Act.put, List.getElem_toArray, List.getElem_cons_zero, List.getElem_cons_succ, List.setIfInBounds_toArray, List.set_cons_zero, List.set_cons_succ]
      refine wpAnyH_take (i := 8) (oi := _) (v := ?_) rfl (by kernel_rfl) (by kernel_rfl) (by kernel_rfl) (fun _ _ _ h => h) (Or.inl ⟨by rfl, ?_⟩) (by assumption) ?_
      rotate_left
      · (intro w hSw; (try dsimp only at hSw); go_simp; try with_reducible rfl)
      try simp only [Act.put, List.getElem_toArray, List.getElem_cons_zero, List.getElem_cons_succ, List.setIfInBounds_toArray, List.set_cons_zero, List.set_cons_succ]
      refine wpAnyH_ready (rs := [9]) (by kernel_rfl) (by simp) ?_
      refine AllReadyH.cons (o := _) rfl (fun K hK => ?_) AllReadyH.nil
      go_simp
      refine hK.out _ _ (by (try dsimp only); first | exact keepH hst2.swap2.drew rfl rfl | exact keepH ((((hst2.swap2.set _ _).set _ _).set _ _).set _ _).drew rfl rfl) (fun hHeld => ?_)
      clear hK K
      try simp only [Act.put, List.getElem_toArray, List.getElem_cons_zero, List.getElem_cons_succ, List.setIfInBounds_toArray, List.set_cons_zero, List.set_cons_succ]
      refine wpAnyH_take (i := 10) (oi := _) (v := ?_) rfl (by kernel_rfl) (by kernel_rfl) (by kernel_rfl) (fun _ _ _ h => h) (Or.inl ⟨by rfl, ?_⟩) (by assumption) ?_
      rotate_left
      · (intro w hSw; (try dsimp only at hSw); go_simp; try with_reducible rfl)
      try simp only [Act.put, List.getElem_toArray, List.getElem_cons_zero, List.getElem_cons_succ, List.setIfInBounds_toArray, List.set_cons_zero, List.set_cons_succ]
      refine wpAnyH_done (by kernel_rfl) ?_ _
      go_wp2
      have hst3 := ((((hst2.swap2.set 0 (.bool (begB b))).set 1 (.int .i64 x)).set 2 (.int .i64 y)).set 3 (.int .i64 ((b.length : Int) - l.length))).drew
      have hK := keepH hst3 rfl rfl
      refine bodyPost_ret (res14 _ _ _ _ _ _ _ _ rfl rfl hK.1 hK.2.1 hK.2.2.1 hK.2.2.2.1) rfl ?_
      exact Ret.mk hle hst3.drop.drop.drop.drop ⟨HZ.out.symm, rfl⟩
theorem nx_cons (c : UInt8) (r : List UInt8) : nx (c :: r, false) = (r, false) := by
  unfold nx cutS
  rw [if_neg (by simp only [List.length_cons]; rintro (h | h | h); cases h; omega; omega)]
  rfl
theorem nx_nil (x : Bool) : nx ([], x) = ([], true) := by simp [nx, cutS]
theorem nx_bad (l : List UInt8) : nx (l, true) = (l, true) := by simp [nx, cutS]
theorem u8_cons (c : UInt8) (r : List UInt8) : u8 (c :: r, false) = c := by simp [u8, cutS]; split <;> first | omega | rfl
theorem u8_nil (x : Bool) : u8 ([], x) = 0 := by simp [u8, cutS]
theorem u8_bad (l : List UInt8) : u8 (l, true) = 0 := by simp [u8, cutS]
theorem tb_zero (m : Int) (h : m = 128 ∨ m = 64 ∨ m = 48) : tb 0 m = false := by rcases h with rfl | rfl | rfl <;> decide +kernel
theorem vp_ok (b : List UInt8) : (!(vpF b).1.2 && decide (0 < (vpF b).1.1.length)) = (vpR b).2.2.2 := by
  have z1 := tb_zero 128 (.inl rfl)
  have z2 := tb_zero 64 (.inr (.inl rfl))
  have z3 := tb_zero 48 (.inr (.inr rfl))
  rcases b with _ | ⟨b0, _ | ⟨b1, _ | ⟨b2, _ | ⟨b3, _ | ⟨b4, _ | ⟨b5, r⟩⟩⟩⟩⟩⟩ <;>
    simp only [vpF, vpR, vpX, nx_cons, nx_nil, nx_bad, u8_cons, u8_nil, u8_bad, z1, z2, z3, List.length_cons, List.length_nil] <;>
    (repeat' split) <;> simp_all [nx_cons, nx_nil, nx_bad] <;> omega
theorem vp_vals (b : List UInt8) (h : (vpR b).2.2.2 = true) : (vpF b).2.1 = (vpR b).1 ∧ (vpF b).2.2 = (if (vpR b).2.1 = 1 then 7 else if (vpR b).2.1 = 2 then 15 else 0) ∧ (b.length : Int) - (vpF b).1.1.length = (vpR b).2.2.1 := by
  have z1 := tb_zero 128 (.inl rfl)
  have z2 := tb_zero 64 (.inr (.inl rfl))
  have z3 := tb_zero 48 (.inr (.inr rfl))
  rw [← vp_ok b] at h
  revert h
  rcases b with _ | ⟨b0, _ | ⟨b1, _ | ⟨b2, _ | ⟨b3, _ | ⟨b4, _ | ⟨b5, r⟩⟩⟩⟩⟩⟩ <;>
    simp only [vpF, vpR, vpX, nx_cons, nx_nil, nx_bad, u8_cons, u8_nil, u8_bad, z1, z2, z3, List.length_cons, List.length_nil] <;>
    (repeat' split) <;> simp_all [nx_cons, nx_nil, nx_bad] <;> omega
end Go.Proofs.Ytaemohkmingnpaa
