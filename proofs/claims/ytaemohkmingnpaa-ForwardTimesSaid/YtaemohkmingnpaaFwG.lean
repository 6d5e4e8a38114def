/- the laws' own helpers: packet, theirs; Layer. -/
import Derived.Test.YtaemohkmingnpaaFwC
namespace Go.Proofs.Ytaemohkmingnpaa
open Go.RowKit
set_option linter.unusedSimpArgs false

theorem pkB49 : (Try.prog.underlying 49).any (fun d => match d with | .struct _ => true | _ => false) = true := by kernel_rfl
theorem pkD49 : ∃ fs, Try.prog.underlying 49 = some (.struct fs) := by
  have h := pkB49
  cases e : Try.prog.underlying 49 with
  | none => rw [e] at h; cases h
  | some d => rw [e] at h; cases d <;> first | exact ⟨_, rfl⟩ | cases h
theorem pkI49 : (Try.prog.info? 49).map (·.size) = some 9 := by kernel_rfl
section
variable {P : Program}
theorem step_store_row {ops : Array Oper} {o : Oper} {a : Act} {w : World} {K : Act → World → Prop} {Q : Exit → Act → World → Prop} {E : Prop} (hgd : o.guard = none) (ty : TypeId) (x y : Operand) (ho : o.op = .store ty x y)
    (g : Nat) (cells : Array Value) (hx : a.eval x = .pointer (some ⟨g, 0, none⟩)) (hy : a.eval y = .agg cells)
    (t : TypeId) (old : Array Value) (hg : w.heap[g]? = some (.cells old t (0, 0))) (hi : (P.info? ty).map (·.size) = some cells.size)
    (hold : old.size = cells.size) (h1 : cells.all (·.oneCell') = true)
    (h : K (a.put o.dst undef) (w.setRow g cells)) : if Region.wanted o (yielded ops a.tmps) = true then Oper.wp P o a w K Q else E := by
  have hw : Region.wanted o (yielded ops a.tmps) = true := by simp [Region.wanted, hgd]
  rw [if_pos hw]
  exact wp_store_row ty x y ho g cells hx hy t old hg hi hold h1 h
end
/-- an operation of a script -/
structure OpD where
  pick : Bool
  layer : Int
  seq : Int
  time : Int
  marker : Bool
  A : Option Addr
  c : Nat
  bs : List UInt8
  now : Int
abbrev opC (x : OpD) : Array Value := #[.bool x.pick, .int .i64 x.layer, .int .u16 x.seq, .int .u32 x.time, .bool x.marker, .slice x.A x.bs.length x.c, .int .i64 x.now]
def pk5 (x : OpD) (ev : Value) (pad : Int) : Pk := ⟨x.marker, 5, x.seq, x.time, 9, .slice none 0 0, ev, pad⟩
theorem res14p (w : World) (q : Nat) (P : Pk) (A : Option Addr) (n c : Nat) (tmps : Array Value) (ht : tmps[2]? = some (.pointer (some ⟨q, 0, none⟩))) (h : Blk w q 49 (pkC P (.slice A n c))) :
    (results Try.f14 tmps).run Try.prog w = .ok (.agg (pkC P (.slice A n c))) w := by
  have c0 := h.cell 0
  have c1 := h.cell 1
  have c2 := h.cell 2
  have c3 := h.cell 3
  have c4 := h.cell 4
  have c5 := h.cell 5
  have c6 := h.cell 6
  have c7 := h.cell 7
  have c8 := h.cell 8
  simp only [pkC, List.getElem?_toArray, List.getElem?_cons_zero, List.getElem?_cons_succ] at c0 c1 c2 c3 c4 c5 c6 c7 c8
  simp [results, Try.results14, go_sem, ht, c0, c1, c2, c3, c4, c5, c6, c7, c8]
theorem res13p (w : World) (q : Nat) (P : Pk) (A : Option Addr) (n c : Nat) (tmps : Array Value) (ht : tmps[2]? = some (.pointer (some ⟨q, 0, none⟩))) (h : Blk w q 38 (pkC P (.slice A n c))) :
    (results Try.f13 tmps).run Try.prog w = .ok (.agg (pkC P (.slice A n c))) w := by
  have c0 := h.cell 0
  have c1 := h.cell 1
  have c2 := h.cell 2
  have c3 := h.cell 3
  have c4 := h.cell 4
  have c5 := h.cell 5
  have c6 := h.cell 6
  have c7 := h.cell 7
  have c8 := h.cell 8
  simp only [pkC, List.getElem?_toArray, List.getElem?_cons_zero, List.getElem?_cons_succ] at c0 c1 c2 c3 c4 c5 c6 c7 c8
  simp [results, Try.results13, go_sem, ht, c0, c1, c2, c3, c4, c5, c6, c7, c8]
set_option maxRecDepth 8000 in
set_option maxHeartbeats 4000000 in
theorem packetC (I : Img) (M : List Res) (w : World) (x : OpD) (hst : St I M w) :
    Calls Try.prog 14 #[.agg (opC x)] w (Ret I (fun v J M' => I = J ∧ v = .agg (pkC (pk5 x (.slice none 0 0) 0) (.slice x.A x.bs.length x.c)) ∧ M' = M)) := by
  obtain ⟨pick, layer, seq, time, marker, A, c, bs, now⟩ := x
  have hst1 := (hst.alloc 44 (opC ⟨pick, layer, seq, time, marker, A, c, bs, now⟩)).alloc 49 zeroC
  simp only [World.size_alloc] at hst1
  have hs : Blk ((w.alloc _).alloc _) (w.heap.size + 1) 49 zeroC := hst1.at 0 rfl
  obtain ⟨hc, hf, hlt⟩ := Blk.all (hst1.at 1 rfl)
  have H := Lib.hid hst1
  clear hst hst1
  go_enter Try.func14, Try.ntmps14
  go_upto_region 1 with fail
  generalize World.alloc (World.alloc w _) _ = w1 at hs hc hf hlt H ⊢
  go_upto_region 99 with (refine wpList_store_row rfl 49 (.tmp 2) (.tmp _) rfl (w.heap.size + 1) (pkC (pk5 ⟨pick, layer, seq, time, marker, A, c, bs, now⟩ (.slice none 0 0) 0) (.slice A bs.length c)) rfl rfl 49 _ hs pkI49 rfl (by simp [pk5, Value.oneCell']) ?_)
  refine bodyPost_ret (res14p _ _ (pk5 ⟨pick, layer, seq, time, marker, A, c, bs, now⟩ (.slice none 0 0) 0) A bs.length c _ rfl ((H.out.setR _).at 0 rfl)) rfl ?_
  exact Ret.mk (.refl I) (H.out.setR _).drop.drop ⟨rfl, rfl, rfl⟩
theorem thKeep0 {J : Img} {M : List Res} {w : World} {q : Nat} {b : Res} {P : Pk} {pv : Value} (h : St J (b :: bk q 49 (pkC P pv) :: M) w) :
    w.cell? ⟨q, 0, none⟩ = some (.bool P.marker) ∧ w.cell? ⟨q, 1, none⟩ = some (.int .i64 P.typ) ∧ w.cell? ⟨q, 2, none⟩ = some (.int .u16 P.seq) ∧ w.cell? ⟨q, 3, none⟩ = some (.int .u32 P.time) ∧ w.cell? ⟨q, 4, none⟩ = some (.int .u32 P.source) ∧ w.cell? ⟨q, 7, none⟩ = some pv := by
  have hb : Blk w q 49 (pkC P pv) := h.at 1 rfl
  exact ⟨hb.cell 0, hb.cell 1, hb.cell 2, hb.cell 3, hb.cell 4, hb.cell 7⟩
theorem thKeep1 {J : Img} {M : List Res} {w : World} {q : Nat} {a b : Res} {P : Pk} {pv : Value} (h : St J (a :: b :: bk q 49 (pkC P pv) :: M) w) :
    w.cell? ⟨q, 0, none⟩ = some (.bool P.marker) ∧ w.cell? ⟨q, 1, none⟩ = some (.int .i64 P.typ) ∧ w.cell? ⟨q, 2, none⟩ = some (.int .u16 P.seq) ∧ w.cell? ⟨q, 3, none⟩ = some (.int .u32 P.time) ∧ w.cell? ⟨q, 4, none⟩ = some (.int .u32 P.source) ∧ w.cell? ⟨q, 7, none⟩ = some pv := thKeep0 h.drop
theorem St.growTo {I : Img} {M : List Res} {w w2 : World} {o : Obj} (h : St I M w) (e : w.alloc o = w2) : St I M w2 := e ▸ h.grow o
theorem St.lit0To {I : Img} {M : List Res} {w w2 : World} {e : TypeId} (h : St I M w) (he : w.alloc (.cells #[] e) = w2) : St I (row e 1 (.slice (some ⟨w.heap.size, 0, none⟩) 0 0) 0 [] :: M) w2 := he ▸ St.fresh h (h.grow _) h.lit0
theorem St.setR1 {I : Img} {M : List Res} {w : World} {a : Res} {g : Nat} {t : TypeId} {cs : Array Value} (h : St I (a :: bk g t cs :: M) w) (cs' : Array Value) : St I (a :: bk g t cs' :: M) (w.setRow g cs') := (h.swap1.setR cs').swap1
set_option maxRecDepth 8000 in
set_option maxHeartbeats 8000000 in
theorem theirsC (I : Img) (M : List Res) (w : World) (P : Pk) (A : Option Addr) (c : Nat) (bs : List UInt8) (hst : St I M w) (hb : Byts I A bs) (hl : bs.length ≤ 140737488351232) :
    Calls Try.prog 13 #[.agg (pkC P (.slice A bs.length c))] w (Ret I (fun v J M' => I = J ∧ ∃ A2 c2 ev, v = .agg (pkC ⟨P.marker, P.typ, P.seq, P.time, P.source, .slice none 0 0, ev, 3⟩ (.slice A2 bs.length c2)) ∧ M' = row 5 1 (.slice A2 bs.length c2) bs.length (bvs bs) :: M)) := by
  have HB := Lib.hid hb
  obtain ⟨i0, hi, hz0, hz1, hz2⟩ := info_parts infoU8
  have hst1 := (hst.alloc 49 (pkC P (.slice A bs.length c))).alloc 38 zeroC
  simp only [World.size_alloc] at hst1
  clear hst hb
  go_enter Try.func13, Try.ntmps13
  go_upto_region 1 with fail
  generalize World.alloc (World.alloc w _) _ = W at hst1 ⊢
  have hs := hst1.drew
  clear hst1
  refine wp_region_held_drew (S := (fun w' => w'.cell? ⟨w.heap.size, 0, none⟩ = some (.bool P.marker) ∧ w'.cell? ⟨w.heap.size, 1, none⟩ = some (.int .i64 P.typ) ∧ w'.cell? ⟨w.heap.size, 2, none⟩ = some (.int .u16 P.seq) ∧ w'.cell? ⟨w.heap.size, 3, none⟩ = some (.int .u32 P.time) ∧ w'.cell? ⟨w.heap.size, 4, none⟩ = some (.int .u32 P.source) ∧ w'.cell? ⟨w.heap.size, 7, none⟩ = some (.slice A bs.length c))) (by kernel_rfl) (by (try dsimp only); first | exact thKeep0 hs | exact thKeep1 hs | exact thKeep0 (hs.grow _) | exact thKeep1 (hs.grow _)) (fun hHeld => ?_)
  generalize World.drew W = W at hs hHeld ⊢
  refine wpAnyH_take (i := 0) (oi := _) (v := ?_) rfl (by kernel_rfl) (by kernel_rfl) (by kernel_rfl) (fun _ _ _ h => h) (Or.inl ⟨by rfl, ?_⟩) (by assumption) ?_
  rotate_left
  · (intro w hSw; (try dsimp only at hSw); go_simp; try with_reducible rfl)
  try simp only [Act.put, List.getElem_toArray, List.getElem_cons_zero, List.getElem_cons_succ, List.setIfInBounds_toArray, List.set_cons_zero, List.set_cons_succ]
  refine wpAnyH_take (i := 1) (oi := _) (v := ?_) rfl (by kernel_rfl) (by kernel_rfl) (by kernel_rfl) (fun _ _ _ h => h) (Or.inl ⟨by rfl, ?_⟩) (by assumption) ?_
  rotate_left
  · (intro w hSw; (try dsimp only at hSw); go_simp; try with_reducible rfl)
  try simp only [Act.put, List.getElem_toArray, List.getElem_cons_zero, List.getElem_cons_succ, List.setIfInBounds_toArray, List.set_cons_zero, List.set_cons_succ]
  refine wpAnyH_take (i := 2) (oi := _) (v := ?_) rfl (by kernel_rfl) (by kernel_rfl) (by kernel_rfl) (fun _ _ _ h => h) (Or.inl ⟨by rfl, ?_⟩) (by assumption) ?_
  rotate_left
  · (intro w hSw; (try dsimp only at hSw); go_simp; try with_reducible rfl)
  try simp only [Act.put, List.getElem_toArray, List.getElem_cons_zero, List.getElem_cons_succ, List.setIfInBounds_toArray, List.set_cons_zero, List.set_cons_succ]
  refine wpAnyH_take (i := 3) (oi := _) (v := ?_) rfl (by kernel_rfl) (by kernel_rfl) (by kernel_rfl) (fun _ _ _ h => h) (Or.inl ⟨by rfl, ?_⟩) (by assumption) ?_
  rotate_left
  · (intro w hSw; (try dsimp only at hSw); go_simp; try with_reducible rfl)
  try simp only [Act.put, List.getElem_toArray, List.getElem_cons_zero, List.getElem_cons_succ, List.setIfInBounds_toArray, List.set_cons_zero, List.set_cons_succ]
  refine wpAnyH_take (i := 4) (oi := _) (v := ?_) rfl (by kernel_rfl) (by kernel_rfl) (by kernel_rfl) (fun _ _ _ h => h) (Or.inl ⟨by rfl, ?_⟩) (by assumption) ?_
  rotate_left
  · (intro w hSw; (try dsimp only at hSw); go_simp; try with_reducible rfl)
  try simp only [Act.put, List.getElem_toArray, List.getElem_cons_zero, List.getElem_cons_succ, List.setIfInBounds_toArray, List.set_cons_zero, List.set_cons_succ]
  refine wpAnyH_take (i := 5) (oi := _) (v := ?_) rfl (by kernel_rfl) (by kernel_rfl) (by kernel_rfl) (fun _ _ _ h => h) (Or.inl ⟨by rfl, ?_⟩) (by assumption) ?_
  rotate_left
  · (intro w hSw; (try dsimp only at hSw); go_simp; try with_reducible rfl)
  try simp only [Act.put, List.getElem_toArray, List.getElem_cons_zero, List.getElem_cons_succ, List.setIfInBounds_toArray, List.set_cons_zero, List.set_cons_succ]
  refine wpAnyH_take (i := 6) (oi := _) (v := ?_) rfl (by kernel_rfl) (by kernel_rfl) (by kernel_rfl) (fun _ _ _ h => h) (Or.inl ⟨by rfl, ?_⟩) (by assumption) ?_
  rotate_left
  · (intro w hSw; (try dsimp only at hSw); go_simp; try with_reducible rfl)
  try simp only [Act.put, List.getElem_toArray, List.getElem_cons_zero, List.getElem_cons_succ, List.setIfInBounds_toArray, List.set_cons_zero, List.set_cons_succ]
  refine wpAnyH_take (i := 7) (oi := _) (v := ?_) rfl (by kernel_rfl) (by kernel_rfl) (by kernel_rfl) (fun _ _ _ h => h) (Or.inl ⟨by rfl, ?_⟩) (by assumption) ?_
  rotate_left
  · (intro w hSw; (try dsimp only at hSw); go_simp; try with_reducible rfl)
  try simp only [Act.put, List.getElem_toArray, List.getElem_cons_zero, List.getElem_cons_succ, List.setIfInBounds_toArray, List.set_cons_zero, List.set_cons_succ]
  refine wpAnyH_take (i := 8) (oi := _) (v := ?_) rfl (by kernel_rfl) (by kernel_rfl) (by kernel_rfl) (fun _ _ _ h => h) (Or.inl ⟨by rfl, ?_⟩) (by assumption) ?_
  rotate_left
  · (intro w hSw; (try dsimp only at hSw); go_simp; try with_reducible rfl)
  try simp only [Act.put, List.getElem_toArray, List.getElem_cons_zero, List.getElem_cons_succ, List.setIfInBounds_toArray, List.set_cons_zero, List.set_cons_succ]
  refine wpAnyH_take (i := 9) (oi := _) (v := ?_) rfl (by kernel_rfl) (by kernel_rfl) (by kernel_rfl) (fun _ _ _ h => h) (Or.inl ⟨by rfl, ?_⟩) (by assumption) ?_
  rotate_left
  · (intro w hSw; (try dsimp only at hSw); go_simp; try with_reducible rfl)
  try simp only [Act.put, List.getElem_toArray, List.getElem_cons_zero, List.getElem_cons_succ, List.setIfInBounds_toArray, List.set_cons_zero, List.set_cons_succ]
  refine wpAnyH_take (i := 11) (oi := _) (v := ?_) rfl (by kernel_rfl) (by kernel_rfl) (by kernel_rfl) (fun _ _ _ h => h) (Or.inl ⟨by rfl, ?_⟩) (by assumption) ?_
  rotate_left
  · (intro w hSw; (try dsimp only at hSw); go_simp; try with_reducible rfl)
  try simp only [Act.put, List.getElem_toArray, List.getElem_cons_zero, List.getElem_cons_succ, List.setIfInBounds_toArray, List.set_cons_zero, List.set_cons_succ]
  refine wpAnyH_take (i := 12) (oi := _) (v := ?_) rfl (by kernel_rfl) (by kernel_rfl) (by kernel_rfl) (fun _ _ _ h => h) (Or.inl ⟨by rfl, ?_⟩) (by assumption) ?_
  rotate_left
  · (intro w hSw; (try dsimp only at hSw); go_simp; try with_reducible rfl)
  try simp only [Act.put, List.getElem_toArray, List.getElem_cons_zero, List.getElem_cons_succ, List.setIfInBounds_toArray, List.set_cons_zero, List.set_cons_succ]
  refine wpAnyH_ready (rs := [10, 14]) (by kernel_rfl) (by simp) ?_
  refine (AllReadyH.cons (o := _) rfl (fun K hK => ?_) (AllReadyH.cons (o := _) rfl (fun K hK => ?_) AllReadyH.nil))
  · skip
    go_simp
    try clear hHeld
    refine hK.out _ _ (by (try dsimp only); first | exact thKeep0 hs | exact thKeep1 hs | exact thKeep0 (hs.grow _) | exact thKeep1 (hs.grow _)) (fun hHeld => ?_)
    clear hK K
    try simp only [Act.put, List.getElem_toArray, List.getElem_cons_zero, List.getElem_cons_succ, List.setIfInBounds_toArray, List.set_cons_zero, List.set_cons_succ]
    generalize hw : World.alloc W _ = W at hHeld ⊢
    replace hs := hs.lit0To hw
    clear hw
    refine wpAnyH_ready (rs := [13, 14]) (by kernel_rfl) (by simp) ?_
    refine (AllReadyH.cons (o := _) rfl (fun K hK => ?_) (AllReadyH.cons (o := _) rfl (fun K hK => ?_) AllReadyH.nil))
    · skip
      refine step_append_src _ (by rfl) _ _ 34 34 (by rfl) 0 5 i0 (.int .u8 0) 1 1 Try.underlying34 hi hz0 hz1 hz2 rfl _ 0 [] (by rfl) hs.head (.slice A bs.length c) bs.length (bvs bs) (by rfl) (HB.out.src hs Try.underlying34 c) (by unfold maxLen; omega) (by omega) (Nat.zero_le _) ?_
      intro v' W hown' hgrow hat
      have hown2 : W.ownsRow 0 5 1 v' bs.length (bvs bs) := by simpa using hown'
      obtain ⟨A2, c2, rfl⟩ := own_form hown2
      replace hs := hs.grown hgrow hown2 hat
      clear hown' hown2 hgrow hat
      try clear hHeld
      refine hK.out _ _ (by (try dsimp only); first | exact thKeep0 hs | exact thKeep1 hs | exact thKeep0 (hs.grow _) | exact thKeep1 (hs.grow _)) (fun hHeld => ?_)
      clear hK K
      try simp only [Act.put, List.getElem_toArray, List.getElem_cons_zero, List.getElem_cons_succ, List.setIfInBounds_toArray, List.set_cons_zero, List.set_cons_succ]
      refine wpAnyH_ready (rs := [14]) (by kernel_rfl) (by simp) ?_
      refine (AllReadyH.cons (o := _) rfl (fun K hK => ?_) AllReadyH.nil)
      go_simp
      try clear hHeld
      refine hK.out _ _ (by (try dsimp only); first | exact thKeep0 hs | exact thKeep1 hs | exact thKeep0 (hs.grow _) | exact thKeep1 (hs.grow _)) (fun hHeld => ?_)
      clear hK K
      try simp only [Act.put, List.getElem_toArray, List.getElem_cons_zero, List.getElem_cons_succ, List.setIfInBounds_toArray, List.set_cons_zero, List.set_cons_succ]
      generalize hw : World.alloc W _ = W at hHeld ⊢
      replace hs := hs.growTo hw
      clear hw
      refine wpAnyH_take (i := 15) (oi := _) (v := ?_) rfl (by kernel_rfl) (by kernel_rfl) (by kernel_rfl) (fun _ _ _ h => h) (Or.inl ⟨by rfl, ?_⟩) (by assumption) ?_
      rotate_left
      · (intro w hSw; (try dsimp only at hSw); go_simp; try with_reducible rfl)
      try simp only [Act.put, List.getElem_toArray, List.getElem_cons_zero, List.getElem_cons_succ, List.setIfInBounds_toArray, List.set_cons_zero, List.set_cons_succ]
      refine wpAnyH_ready (rs := [16]) (by kernel_rfl) (by simp) ?_
      refine (AllReadyH.cons (o := _) rfl (fun K hK => ?_) AllReadyH.nil)
      go_simp
      try clear hHeld
      refine hK.out _ _ (by (try dsimp only); first | exact thKeep0 hs | exact thKeep1 hs | exact thKeep0 (hs.grow _) | exact thKeep1 (hs.grow _)) (fun hHeld => ?_)
      clear hK K
      try simp only [Act.put, List.getElem_toArray, List.getElem_cons_zero, List.getElem_cons_succ, List.setIfInBounds_toArray, List.set_cons_zero, List.set_cons_succ]
      generalize Array.size (World.heap W) = nev
      generalize hw : World.alloc W _ = W at hHeld ⊢
      replace hs := hs.growTo hw
      clear hw
      refine wpAnyH_take (i := 17) (oi := _) (v := ?_) rfl (by kernel_rfl) (by kernel_rfl) (by kernel_rfl) (fun _ _ _ h => h) (Or.inl ⟨by rfl, ?_⟩) (by assumption) ?_
      rotate_left
      · (intro w hSw; (try dsimp only at hSw); go_simp; try with_reducible rfl)
      try simp only [Act.put, List.getElem_toArray, List.getElem_cons_zero, List.getElem_cons_succ, List.setIfInBounds_toArray, List.set_cons_zero, List.set_cons_succ]
      refine wpAnyH_ready (rs := [18]) (by kernel_rfl) (by simp) ?_
      refine (AllReadyH.cons (o := _) rfl (fun K hK => ?_) AllReadyH.nil)
      refine step_store_row (by rfl) 38 _ _ (by rfl) (w.heap.size + 1) (pkC ⟨P.marker, P.typ, P.seq, P.time, P.source, .slice none 0 0, .slice (some ⟨nev, 0, none⟩) 1 1, 3⟩ (.slice A2 bs.length c2)) (by rfl) (by rfl) 38 _ (hs.at 1 rfl) pkI rfl (by simp [Value.oneCell']) ?_
      replace hs := hs.setR1 (pkC ⟨P.marker, P.typ, P.seq, P.time, P.source, .slice none 0 0, .slice (some ⟨nev, 0, none⟩) 1 1, 3⟩ (.slice A2 bs.length c2))
      try clear hHeld
      refine hK.out _ _ (by (try dsimp only); first | exact thKeep0 hs | exact thKeep1 hs | exact thKeep0 (hs.grow _) | exact thKeep1 (hs.grow _)) (fun hHeld => ?_)
      clear hK K
      try simp only [Act.put, List.getElem_toArray, List.getElem_cons_zero, List.getElem_cons_succ, List.setIfInBounds_toArray, List.set_cons_zero, List.set_cons_succ]
      refine wpAnyH_done (by kernel_rfl) ?_ _
      go_upto_region 99 with fail
      refine bodyPost_ret (res13p _ _ ⟨P.marker, P.typ, P.seq, P.time, P.source, .slice none 0 0, .slice (some ⟨nev, 0, none⟩) 1 1, 3⟩ A2 bs.length c2 _ rfl (hs.at 1 rfl)) rfl ?_
      exact Ret.mk (.refl I) hs.swap2.drop.drop ⟨rfl, A2, c2, _, rfl, rfl⟩
    · skip
      go_simp
      try clear hHeld
      refine hK.out _ _ (by (try dsimp only); first | exact thKeep0 hs | exact thKeep1 hs | exact thKeep0 (hs.grow _) | exact thKeep1 (hs.grow _)) (fun hHeld => ?_)
      clear hK K
      try simp only [Act.put, List.getElem_toArray, List.getElem_cons_zero, List.getElem_cons_succ, List.setIfInBounds_toArray, List.set_cons_zero, List.set_cons_succ]
      generalize hw : World.alloc W _ = W at hHeld ⊢
      replace hs := hs.growTo hw
      clear hw
      refine wpAnyH_take (i := 15) (oi := _) (v := ?_) rfl (by kernel_rfl) (by kernel_rfl) (by kernel_rfl) (fun _ _ _ h => h) (Or.inl ⟨by rfl, ?_⟩) (by assumption) ?_
      rotate_left
      · (intro w hSw; (try dsimp only at hSw); go_simp; try with_reducible rfl)
      try simp only [Act.put, List.getElem_toArray, List.getElem_cons_zero, List.getElem_cons_succ, List.setIfInBounds_toArray, List.set_cons_zero, List.set_cons_succ]
      refine wpAnyH_ready (rs := [13, 16]) (by kernel_rfl) (by simp) ?_
      refine (AllReadyH.cons (o := _) rfl (fun K hK => ?_) (AllReadyH.cons (o := _) rfl (fun K hK => ?_) AllReadyH.nil))
      · skip
        refine step_append_src _ (by rfl) _ _ 34 34 (by rfl) 0 5 i0 (.int .u8 0) 1 1 Try.underlying34 hi hz0 hz1 hz2 rfl _ 0 [] (by rfl) hs.head (.slice A bs.length c) bs.length (bvs bs) (by rfl) (HB.out.src hs Try.underlying34 c) (by unfold maxLen; omega) (by omega) (Nat.zero_le _) ?_
        intro v' W hown' hgrow hat
        have hown2 : W.ownsRow 0 5 1 v' bs.length (bvs bs) := by simpa using hown'
        obtain ⟨A2, c2, rfl⟩ := own_form hown2
        replace hs := hs.grown hgrow hown2 hat
        clear hown' hown2 hgrow hat
        try clear hHeld
        refine hK.out _ _ (by (try dsimp only); first | exact thKeep0 hs | exact thKeep1 hs | exact thKeep0 (hs.grow _) | exact thKeep1 (hs.grow _)) (fun hHeld => ?_)
        clear hK K
        try simp only [Act.put, List.getElem_toArray, List.getElem_cons_zero, List.getElem_cons_succ, List.setIfInBounds_toArray, List.set_cons_zero, List.set_cons_succ]
        refine wpAnyH_ready (rs := [16]) (by kernel_rfl) (by simp) ?_
        refine (AllReadyH.cons (o := _) rfl (fun K hK => ?_) AllReadyH.nil)
        go_simp
        try clear hHeld
        refine hK.out _ _ (by (try dsimp only); first | exact thKeep0 hs | exact thKeep1 hs | exact thKeep0 (hs.grow _) | exact thKeep1 (hs.grow _)) (fun hHeld => ?_)
        clear hK K
        try simp only [Act.put, List.getElem_toArray, List.getElem_cons_zero, List.getElem_cons_succ, List.setIfInBounds_toArray, List.set_cons_zero, List.set_cons_succ]
        generalize Array.size (World.heap W) = nev
        generalize hw : World.alloc W _ = W at hHeld ⊢
        replace hs := hs.growTo hw
        clear hw
        refine wpAnyH_take (i := 17) (oi := _) (v := ?_) rfl (by kernel_rfl) (by kernel_rfl) (by kernel_rfl) (fun _ _ _ h => h) (Or.inl ⟨by rfl, ?_⟩) (by assumption) ?_
        rotate_left
        · (intro w hSw; (try dsimp only at hSw); go_simp; try with_reducible rfl)
        try simp only [Act.put, List.getElem_toArray, List.getElem_cons_zero, List.getElem_cons_succ, List.setIfInBounds_toArray, List.set_cons_zero, List.set_cons_succ]
        refine wpAnyH_ready (rs := [18]) (by kernel_rfl) (by simp) ?_
        refine (AllReadyH.cons (o := _) rfl (fun K hK => ?_) AllReadyH.nil)
        refine step_store_row (by rfl) 38 _ _ (by rfl) (w.heap.size + 1) (pkC ⟨P.marker, P.typ, P.seq, P.time, P.source, .slice none 0 0, .slice (some ⟨nev, 0, none⟩) 1 1, 3⟩ (.slice A2 bs.length c2)) (by rfl) (by rfl) 38 _ (hs.at 1 rfl) pkI rfl (by simp [Value.oneCell']) ?_
        replace hs := hs.setR1 (pkC ⟨P.marker, P.typ, P.seq, P.time, P.source, .slice none 0 0, .slice (some ⟨nev, 0, none⟩) 1 1, 3⟩ (.slice A2 bs.length c2))
        try clear hHeld
        refine hK.out _ _ (by (try dsimp only); first | exact thKeep0 hs | exact thKeep1 hs | exact thKeep0 (hs.grow _) | exact thKeep1 (hs.grow _)) (fun hHeld => ?_)
        clear hK K
        try simp only [Act.put, List.getElem_toArray, List.getElem_cons_zero, List.getElem_cons_succ, List.setIfInBounds_toArray, List.set_cons_zero, List.set_cons_succ]
        refine wpAnyH_done (by kernel_rfl) ?_ _
        go_upto_region 99 with fail
        refine bodyPost_ret (res13p _ _ ⟨P.marker, P.typ, P.seq, P.time, P.source, .slice none 0 0, .slice (some ⟨nev, 0, none⟩) 1 1, 3⟩ A2 bs.length c2 _ rfl (hs.at 1 rfl)) rfl ?_
        exact Ret.mk (.refl I) hs.swap2.drop.drop ⟨rfl, A2, c2, _, rfl, rfl⟩
      · skip
        go_simp
        try clear hHeld
        refine hK.out _ _ (by (try dsimp only); first | exact thKeep0 hs | exact thKeep1 hs | exact thKeep0 (hs.grow _) | exact thKeep1 (hs.grow _)) (fun hHeld => ?_)
        clear hK K
        try simp only [Act.put, List.getElem_toArray, List.getElem_cons_zero, List.getElem_cons_succ, List.setIfInBounds_toArray, List.set_cons_zero, List.set_cons_succ]
        generalize Array.size (World.heap W) = nev
        generalize hw : World.alloc W _ = W at hHeld ⊢
        replace hs := hs.growTo hw
        clear hw
        refine wpAnyH_ready (rs := [13]) (by kernel_rfl) (by simp) ?_
        refine (AllReadyH.cons (o := _) rfl (fun K hK => ?_) AllReadyH.nil)
        refine step_append_src _ (by rfl) _ _ 34 34 (by rfl) 0 5 i0 (.int .u8 0) 1 1 Try.underlying34 hi hz0 hz1 hz2 rfl _ 0 [] (by rfl) hs.head (.slice A bs.length c) bs.length (bvs bs) (by rfl) (HB.out.src hs Try.underlying34 c) (by unfold maxLen; omega) (by omega) (Nat.zero_le _) ?_
        intro v' W hown' hgrow hat
        have hown2 : W.ownsRow 0 5 1 v' bs.length (bvs bs) := by simpa using hown'
        obtain ⟨A2, c2, rfl⟩ := own_form hown2
        replace hs := hs.grown hgrow hown2 hat
        clear hown' hown2 hgrow hat
        try clear hHeld
        refine hK.out _ _ (by (try dsimp only); first | exact thKeep0 hs | exact thKeep1 hs | exact thKeep0 (hs.grow _) | exact thKeep1 (hs.grow _)) (fun hHeld => ?_)
        clear hK K
        try simp only [Act.put, List.getElem_toArray, List.getElem_cons_zero, List.getElem_cons_succ, List.setIfInBounds_toArray, List.set_cons_zero, List.set_cons_succ]
        refine wpAnyH_take (i := 17) (oi := _) (v := ?_) rfl (by kernel_rfl) (by kernel_rfl) (by kernel_rfl) (fun _ _ _ h => h) (Or.inl ⟨by rfl, ?_⟩) (by assumption) ?_
        rotate_left
        · (intro w hSw; (try dsimp only at hSw); go_simp; try with_reducible rfl)
        try simp only [Act.put, List.getElem_toArray, List.getElem_cons_zero, List.getElem_cons_succ, List.setIfInBounds_toArray, List.set_cons_zero, List.set_cons_succ]
        refine wpAnyH_ready (rs := [18]) (by kernel_rfl) (by simp) ?_
        refine (AllReadyH.cons (o := _) rfl (fun K hK => ?_) AllReadyH.nil)
        refine step_store_row (by rfl) 38 _ _ (by rfl) (w.heap.size + 1) (pkC ⟨P.marker, P.typ, P.seq, P.time, P.source, .slice none 0 0, .slice (some ⟨nev, 0, none⟩) 1 1, 3⟩ (.slice A2 bs.length c2)) (by rfl) (by rfl) 38 _ (hs.at 1 rfl) pkI rfl (by simp [Value.oneCell']) ?_
        replace hs := hs.setR1 (pkC ⟨P.marker, P.typ, P.seq, P.time, P.source, .slice none 0 0, .slice (some ⟨nev, 0, none⟩) 1 1, 3⟩ (.slice A2 bs.length c2))
        try clear hHeld
        refine hK.out _ _ (by (try dsimp only); first | exact thKeep0 hs | exact thKeep1 hs | exact thKeep0 (hs.grow _) | exact thKeep1 (hs.grow _)) (fun hHeld => ?_)
        clear hK K
        try simp only [Act.put, List.getElem_toArray, List.getElem_cons_zero, List.getElem_cons_succ, List.setIfInBounds_toArray, List.set_cons_zero, List.set_cons_succ]
        refine wpAnyH_done (by kernel_rfl) ?_ _
        go_upto_region 99 with fail
        refine bodyPost_ret (res13p _ _ ⟨P.marker, P.typ, P.seq, P.time, P.source, .slice none 0 0, .slice (some ⟨nev, 0, none⟩) 1 1, 3⟩ A2 bs.length c2 _ rfl (hs.at 1 rfl)) rfl ?_
        exact Ret.mk (.refl I) hs.swap2.drop.drop ⟨rfl, A2, c2, _, rfl, rfl⟩
  · skip
    go_simp
    try clear hHeld
    refine hK.out _ _ (by (try dsimp only); first | exact thKeep0 hs | exact thKeep1 hs | exact thKeep0 (hs.grow _) | exact thKeep1 (hs.grow _)) (fun hHeld => ?_)
    clear hK K
    try simp only [Act.put, List.getElem_toArray, List.getElem_cons_zero, List.getElem_cons_succ, List.setIfInBounds_toArray, List.set_cons_zero, List.set_cons_succ]
    generalize hw : World.alloc W _ = W at hHeld ⊢
    replace hs := hs.growTo hw
    clear hw
    refine wpAnyH_take (i := 15) (oi := _) (v := ?_) rfl (by kernel_rfl) (by kernel_rfl) (by kernel_rfl) (fun _ _ _ h => h) (Or.inl ⟨by rfl, ?_⟩) (by assumption) ?_
    rotate_left
    · (intro w hSw; (try dsimp only at hSw); go_simp; try with_reducible rfl)
    try simp only [Act.put, List.getElem_toArray, List.getElem_cons_zero, List.getElem_cons_succ, List.setIfInBounds_toArray, List.set_cons_zero, List.set_cons_succ]
    refine wpAnyH_ready (rs := [10, 16]) (by kernel_rfl) (by simp) ?_
    refine (AllReadyH.cons (o := _) rfl (fun K hK => ?_) (AllReadyH.cons (o := _) rfl (fun K hK => ?_) AllReadyH.nil))
    · skip
      go_simp
      try clear hHeld
      refine hK.out _ _ (by (try dsimp only); first | exact thKeep0 hs | exact thKeep1 hs | exact thKeep0 (hs.grow _) | exact thKeep1 (hs.grow _)) (fun hHeld => ?_)
      clear hK K
      try simp only [Act.put, List.getElem_toArray, List.getElem_cons_zero, List.getElem_cons_succ, List.setIfInBounds_toArray, List.set_cons_zero, List.set_cons_succ]
      generalize hw : World.alloc W _ = W at hHeld ⊢
      replace hs := hs.lit0To hw
      clear hw
      refine wpAnyH_ready (rs := [13, 16]) (by kernel_rfl) (by simp) ?_
      refine (AllReadyH.cons (o := _) rfl (fun K hK => ?_) (AllReadyH.cons (o := _) rfl (fun K hK => ?_) AllReadyH.nil))
      · skip
        refine step_append_src _ (by rfl) _ _ 34 34 (by rfl) 0 5 i0 (.int .u8 0) 1 1 Try.underlying34 hi hz0 hz1 hz2 rfl _ 0 [] (by rfl) hs.head (.slice A bs.length c) bs.length (bvs bs) (by rfl) (HB.out.src hs Try.underlying34 c) (by unfold maxLen; omega) (by omega) (Nat.zero_le _) ?_
        intro v' W hown' hgrow hat
        have hown2 : W.ownsRow 0 5 1 v' bs.length (bvs bs) := by simpa using hown'
        obtain ⟨A2, c2, rfl⟩ := own_form hown2
        replace hs := hs.grown hgrow hown2 hat
        clear hown' hown2 hgrow hat
        try clear hHeld
        refine hK.out _ _ (by (try dsimp only); first | exact thKeep0 hs | exact thKeep1 hs | exact thKeep0 (hs.grow _) | exact thKeep1 (hs.grow _)) (fun hHeld => ?_)
        clear hK K
        try simp only [Act.put, List.getElem_toArray, List.getElem_cons_zero, List.getElem_cons_succ, List.setIfInBounds_toArray, List.set_cons_zero, List.set_cons_succ]
        refine wpAnyH_ready (rs := [16]) (by kernel_rfl) (by simp) ?_
        refine (AllReadyH.cons (o := _) rfl (fun K hK => ?_) AllReadyH.nil)
        go_simp
        try clear hHeld
        refine hK.out _ _ (by (try dsimp only); first | exact thKeep0 hs | exact thKeep1 hs | exact thKeep0 (hs.grow _) | exact thKeep1 (hs.grow _)) (fun hHeld => ?_)
        clear hK K
        try simp only [Act.put, List.getElem_toArray, List.getElem_cons_zero, List.getElem_cons_succ, List.setIfInBounds_toArray, List.set_cons_zero, List.set_cons_succ]
        generalize Array.size (World.heap W) = nev
        generalize hw : World.alloc W _ = W at hHeld ⊢
        replace hs := hs.growTo hw
        clear hw
        refine wpAnyH_take (i := 17) (oi := _) (v := ?_) rfl (by kernel_rfl) (by kernel_rfl) (by kernel_rfl) (fun _ _ _ h => h) (Or.inl ⟨by rfl, ?_⟩) (by assumption) ?_
        rotate_left
        · (intro w hSw; (try dsimp only at hSw); go_simp; try with_reducible rfl)
        try simp only [Act.put, List.getElem_toArray, List.getElem_cons_zero, List.getElem_cons_succ, List.setIfInBounds_toArray, List.set_cons_zero, List.set_cons_succ]
        refine wpAnyH_ready (rs := [18]) (by kernel_rfl) (by simp) ?_
        refine (AllReadyH.cons (o := _) rfl (fun K hK => ?_) AllReadyH.nil)
        refine step_store_row (by rfl) 38 _ _ (by rfl) (w.heap.size + 1) (pkC ⟨P.marker, P.typ, P.seq, P.time, P.source, .slice none 0 0, .slice (some ⟨nev, 0, none⟩) 1 1, 3⟩ (.slice A2 bs.length c2)) (by rfl) (by rfl) 38 _ (hs.at 1 rfl) pkI rfl (by simp [Value.oneCell']) ?_
        replace hs := hs.setR1 (pkC ⟨P.marker, P.typ, P.seq, P.time, P.source, .slice none 0 0, .slice (some ⟨nev, 0, none⟩) 1 1, 3⟩ (.slice A2 bs.length c2))
        try clear hHeld
        refine hK.out _ _ (by (try dsimp only); first | exact thKeep0 hs | exact thKeep1 hs | exact thKeep0 (hs.grow _) | exact thKeep1 (hs.grow _)) (fun hHeld => ?_)
        clear hK K
        try simp only [Act.put, List.getElem_toArray, List.getElem_cons_zero, List.getElem_cons_succ, List.setIfInBounds_toArray, List.set_cons_zero, List.set_cons_succ]
        refine wpAnyH_done (by kernel_rfl) ?_ _
        go_upto_region 99 with fail
        refine bodyPost_ret (res13p _ _ ⟨P.marker, P.typ, P.seq, P.time, P.source, .slice none 0 0, .slice (some ⟨nev, 0, none⟩) 1 1, 3⟩ A2 bs.length c2 _ rfl (hs.at 1 rfl)) rfl ?_
        exact Ret.mk (.refl I) hs.swap2.drop.drop ⟨rfl, A2, c2, _, rfl, rfl⟩
      · skip
        go_simp
        try clear hHeld
        refine hK.out _ _ (by (try dsimp only); first | exact thKeep0 hs | exact thKeep1 hs | exact thKeep0 (hs.grow _) | exact thKeep1 (hs.grow _)) (fun hHeld => ?_)
        clear hK K
        try simp only [Act.put, List.getElem_toArray, List.getElem_cons_zero, List.getElem_cons_succ, List.setIfInBounds_toArray, List.set_cons_zero, List.set_cons_succ]
        generalize Array.size (World.heap W) = nev
        generalize hw : World.alloc W _ = W at hHeld ⊢
        replace hs := hs.growTo hw
        clear hw
        refine wpAnyH_ready (rs := [13]) (by kernel_rfl) (by simp) ?_
        refine (AllReadyH.cons (o := _) rfl (fun K hK => ?_) AllReadyH.nil)
        refine step_append_src _ (by rfl) _ _ 34 34 (by rfl) 0 5 i0 (.int .u8 0) 1 1 Try.underlying34 hi hz0 hz1 hz2 rfl _ 0 [] (by rfl) hs.head (.slice A bs.length c) bs.length (bvs bs) (by rfl) (HB.out.src hs Try.underlying34 c) (by unfold maxLen; omega) (by omega) (Nat.zero_le _) ?_
        intro v' W hown' hgrow hat
        have hown2 : W.ownsRow 0 5 1 v' bs.length (bvs bs) := by simpa using hown'
        obtain ⟨A2, c2, rfl⟩ := own_form hown2
        replace hs := hs.grown hgrow hown2 hat
        clear hown' hown2 hgrow hat
        try clear hHeld
        refine hK.out _ _ (by (try dsimp only); first | exact thKeep0 hs | exact thKeep1 hs | exact thKeep0 (hs.grow _) | exact thKeep1 (hs.grow _)) (fun hHeld => ?_)
        clear hK K
        try simp only [Act.put, List.getElem_toArray, List.getElem_cons_zero, List.getElem_cons_succ, List.setIfInBounds_toArray, List.set_cons_zero, List.set_cons_succ]
        refine wpAnyH_take (i := 17) (oi := _) (v := ?_) rfl (by kernel_rfl) (by kernel_rfl) (by kernel_rfl) (fun _ _ _ h => h) (Or.inl ⟨by rfl, ?_⟩) (by assumption) ?_
        rotate_left
        · (intro w hSw; (try dsimp only at hSw); go_simp; try with_reducible rfl)
        try simp only [Act.put, List.getElem_toArray, List.getElem_cons_zero, List.getElem_cons_succ, List.setIfInBounds_toArray, List.set_cons_zero, List.set_cons_succ]
        refine wpAnyH_ready (rs := [18]) (by kernel_rfl) (by simp) ?_
        refine (AllReadyH.cons (o := _) rfl (fun K hK => ?_) AllReadyH.nil)
        refine step_store_row (by rfl) 38 _ _ (by rfl) (w.heap.size + 1) (pkC ⟨P.marker, P.typ, P.seq, P.time, P.source, .slice none 0 0, .slice (some ⟨nev, 0, none⟩) 1 1, 3⟩ (.slice A2 bs.length c2)) (by rfl) (by rfl) 38 _ (hs.at 1 rfl) pkI rfl (by simp [Value.oneCell']) ?_
        replace hs := hs.setR1 (pkC ⟨P.marker, P.typ, P.seq, P.time, P.source, .slice none 0 0, .slice (some ⟨nev, 0, none⟩) 1 1, 3⟩ (.slice A2 bs.length c2))
        try clear hHeld
        refine hK.out _ _ (by (try dsimp only); first | exact thKeep0 hs | exact thKeep1 hs | exact thKeep0 (hs.grow _) | exact thKeep1 (hs.grow _)) (fun hHeld => ?_)
        clear hK K
        try simp only [Act.put, List.getElem_toArray, List.getElem_cons_zero, List.getElem_cons_succ, List.setIfInBounds_toArray, List.set_cons_zero, List.set_cons_succ]
        refine wpAnyH_done (by kernel_rfl) ?_ _
        go_upto_region 99 with fail
        refine bodyPost_ret (res13p _ _ ⟨P.marker, P.typ, P.seq, P.time, P.source, .slice none 0 0, .slice (some ⟨nev, 0, none⟩) 1 1, 3⟩ A2 bs.length c2 _ rfl (hs.at 1 rfl)) rfl ?_
        exact Ret.mk (.refl I) hs.swap2.drop.drop ⟨rfl, A2, c2, _, rfl, rfl⟩
    · skip
      go_simp
      try clear hHeld
      refine hK.out _ _ (by (try dsimp only); first | exact thKeep0 hs | exact thKeep1 hs | exact thKeep0 (hs.grow _) | exact thKeep1 (hs.grow _)) (fun hHeld => ?_)
      clear hK K
      try simp only [Act.put, List.getElem_toArray, List.getElem_cons_zero, List.getElem_cons_succ, List.setIfInBounds_toArray, List.set_cons_zero, List.set_cons_succ]
      generalize Array.size (World.heap W) = nev
      generalize hw : World.alloc W _ = W at hHeld ⊢
      replace hs := hs.growTo hw
      clear hw
      refine wpAnyH_ready (rs := [10]) (by kernel_rfl) (by simp) ?_
      refine (AllReadyH.cons (o := _) rfl (fun K hK => ?_) AllReadyH.nil)
      go_simp
      try clear hHeld
      refine hK.out _ _ (by (try dsimp only); first | exact thKeep0 hs | exact thKeep1 hs | exact thKeep0 (hs.grow _) | exact thKeep1 (hs.grow _)) (fun hHeld => ?_)
      clear hK K
      try simp only [Act.put, List.getElem_toArray, List.getElem_cons_zero, List.getElem_cons_succ, List.setIfInBounds_toArray, List.set_cons_zero, List.set_cons_succ]
      generalize hw : World.alloc W _ = W at hHeld ⊢
      replace hs := hs.lit0To hw
      clear hw
      refine wpAnyH_ready (rs := [13]) (by kernel_rfl) (by simp) ?_
      refine (AllReadyH.cons (o := _) rfl (fun K hK => ?_) AllReadyH.nil)
      refine step_append_src _ (by rfl) _ _ 34 34 (by rfl) 0 5 i0 (.int .u8 0) 1 1 Try.underlying34 hi hz0 hz1 hz2 rfl _ 0 [] (by rfl) hs.head (.slice A bs.length c) bs.length (bvs bs) (by rfl) (HB.out.src hs Try.underlying34 c) (by unfold maxLen; omega) (by omega) (Nat.zero_le _) ?_
      intro v' W hown' hgrow hat
      have hown2 : W.ownsRow 0 5 1 v' bs.length (bvs bs) := by simpa using hown'
      obtain ⟨A2, c2, rfl⟩ := own_form hown2
      replace hs := hs.grown hgrow hown2 hat
      clear hown' hown2 hgrow hat
      try clear hHeld
      refine hK.out _ _ (by (try dsimp only); first | exact thKeep0 hs | exact thKeep1 hs | exact thKeep0 (hs.grow _) | exact thKeep1 (hs.grow _)) (fun hHeld => ?_)
      clear hK K
      try simp only [Act.put, List.getElem_toArray, List.getElem_cons_zero, List.getElem_cons_succ, List.setIfInBounds_toArray, List.set_cons_zero, List.set_cons_succ]
      refine wpAnyH_take (i := 17) (oi := _) (v := ?_) rfl (by kernel_rfl) (by kernel_rfl) (by kernel_rfl) (fun _ _ _ h => h) (Or.inl ⟨by rfl, ?_⟩) (by assumption) ?_
      rotate_left
      · (intro w hSw; (try dsimp only at hSw); go_simp; try with_reducible rfl)
      try simp only [Act.put, List.getElem_toArray, List.getElem_cons_zero, List.getElem_cons_succ, List.setIfInBounds_toArray, List.set_cons_zero, List.set_cons_succ]
      refine wpAnyH_ready (rs := [18]) (by kernel_rfl) (by simp) ?_
      refine (AllReadyH.cons (o := _) rfl (fun K hK => ?_) AllReadyH.nil)
      refine step_store_row (by rfl) 38 _ _ (by rfl) (w.heap.size + 1) (pkC ⟨P.marker, P.typ, P.seq, P.time, P.source, .slice none 0 0, .slice (some ⟨nev, 0, none⟩) 1 1, 3⟩ (.slice A2 bs.length c2)) (by rfl) (by rfl) 38 _ (hs.at 1 rfl) pkI rfl (by simp [Value.oneCell']) ?_
      replace hs := hs.setR1 (pkC ⟨P.marker, P.typ, P.seq, P.time, P.source, .slice none 0 0, .slice (some ⟨nev, 0, none⟩) 1 1, 3⟩ (.slice A2 bs.length c2))
      try clear hHeld
      refine hK.out _ _ (by (try dsimp only); first | exact thKeep0 hs | exact thKeep1 hs | exact thKeep0 (hs.grow _) | exact thKeep1 (hs.grow _)) (fun hHeld => ?_)
      clear hK K
      try simp only [Act.put, List.getElem_toArray, List.getElem_cons_zero, List.getElem_cons_succ, List.setIfInBounds_toArray, List.set_cons_zero, List.set_cons_succ]
      refine wpAnyH_done (by kernel_rfl) ?_ _
      go_upto_region 99 with fail
      refine bodyPost_ret (res13p _ _ ⟨P.marker, P.typ, P.seq, P.time, P.source, .slice none 0 0, .slice (some ⟨nev, 0, none⟩) 1 1, 3⟩ A2 bs.length c2 _ rfl (hs.at 1 rfl)) rfl ?_
      exact Ret.mk (.refl I) hs.swap2.drop.drop ⟨rfl, A2, c2, _, rfl, rfl⟩
end Go.Proofs.Ytaemohkmingnpaa
