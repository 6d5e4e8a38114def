/- forward.Flow.send. -/
import Derived.Test.YtaemohkmingnpaaFwB
namespace Go.Proofs.Ytaemohkmingnpaa
open Go.RowKit
set_option linter.unusedSimpArgs false

theorem pkB : (Try.prog.underlying 38).any (fun d => match d with | .struct _ => true | _ => false) = true := by kernel_rfl
theorem pkD : ∃ fs, Try.prog.underlying 38 = some (.struct fs) := by
  have h := pkB
  cases e : Try.prog.underlying 38 with
  | none => rw [e] at h; cases h
  | some d => rw [e] at h; cases d <;> first | exact ⟨_, rfl⟩ | cases h
theorem pkI : (Try.prog.info? 38).map (·.size) = some 9 := by kernel_rfl
structure Pk where
  marker : Bool
  typ : Int
  seq : Int
  time : Int
  source : Int
  cv : Value
  ev : Value
  pad : Int
abbrev pkC (P : Pk) (pv : Value) : Array Value := #[.bool P.marker, .int .i64 P.typ, .int .u16 P.seq, .int .u32 P.time, .int .u32 P.source, P.cv, P.ev, pv, .int .i64 P.pad]
abbrev zeroC : Array Value := #[.bool false, .int .i64 0, .int .u16 0, .int .u32 0, .int .u32 0, .slice none 0 0, .slice none 0 0, .slice none 0 0, .int .i64 0]
structure Pk.ok (P : Pk) : Prop where
  seq : 0 ≤ P.seq ∧ P.seq ≤ 65535
  time : 0 ≤ P.time ∧ P.time ≤ 4294967295
section
variable {I : Img} {M : List Res} {w : World} {a b c d x : Res} {g : Nat} {t : TypeId} {cs : Array Value}
theorem St.setR (h : St I (bk g t cs :: M) w) (cs' : Array Value) : St I (bk g t cs' :: M) (w.setRow g cs') :=
  h.turn rfl rfl rfl (fun k _ hne => setRow_other w g k cs' (fun e => hne (by rw [e]; rfl))) (setRow_heap w g cs cs' t _ h.head) (fun _ hb => .inl hb)
theorem St.setR2 (h : St I (a :: b :: bk g t cs :: M) w) (cs' : Array Value) : St I (a :: b :: bk g t cs' :: M) (w.setRow g cs') := (h.swap2.setR cs').swap2
theorem St.set1 (h : St I (a :: bk g t cs :: M) w) (i : Nat) (u : Value) : St I (a :: bk g t (cs.setIfInBounds i u) :: M) (w.setCell ⟨g, i, none⟩ u) := (h.swap1.set i u).swap1
theorem St.set2 (h : St I (a :: b :: bk g t cs :: M) w) (i : Nat) (u : Value) : St I (a :: b :: bk g t (cs.setIfInBounds i u) :: M) (w.setCell ⟨g, i, none⟩ u) := (h.swap2.set i u).swap2
theorem St.set3 (h : St I (a :: b :: c :: bk g t cs :: M) w) (i : Nat) (u : Value) : St I (a :: b :: c :: bk g t (cs.setIfInBounds i u) :: M) (w.setCell ⟨g, i, none⟩ u) := (h.swap3.set i u).swap3
theorem St.set4 (h : St I (a :: b :: c :: d :: bk g t cs :: M) w) (i : Nat) (u : Value) : St I (a :: b :: c :: d :: bk g t (cs.setIfInBounds i u) :: M) (w.setCell ⟨g, i, none⟩ u) := (h.swap4.set i u).swap4
end
def picF (f : Fl) (begins : Bool) : Fl := if isV f.codec && begins then { f with picture := (f.picture + 1) % 32768 } else f
def payS (f : Fl) (begins : Bool) (bs : List UInt8) : List UInt8 := if isV f.codec then setS bs (picF f begins).picture else bs
def outP (f : Fl) (P : Pk) : Pk := ⟨P.marker, f.typ, f.seq, (P.time + f.offset) % 4294967296, f.source, .slice none 0 0, .slice none 0 0, 0⟩
theorem outOne (f : Fl) (P : Pk) (A : Option Addr) (n c : Nat) : (pkC (outP f P) (.slice A n c)).all (·.oneCell') = true := by simp [pkC, outP, Value.oneCell']
def sendS (f : Fl) (P : Pk) (begins : Bool) (now : Int) : Fl :=
  { picF f begins with
    moment := if !f.begun || decide (f.moment < now) then now else f.moment
    seq := (f.seq + 1) % 65536
    time := (P.time + f.offset) % 4294967296
    last := P.seq
    begun := true }
def SendCut (I : Img) (M : List Res) (p q5 q8 q9 : Nat) (f : Fl) (P : Pk) (pv : Value) (begins : Bool) (bs : List UInt8) (wx : World) : Prop :=
  ∃ J A c, I.le J ∧ (payS f begins bs).length ≤ c ∧ St J (row 5 1 (.slice A (payS f begins bs).length c) (payS f begins bs).length (bvs (payS f begins bs)) :: bk q9 38 (pkC (outP f P) (.slice A (payS f begins bs).length c)) :: bk q8 38 zeroC :: bk q5 38 (pkC P pv) :: bk p 64 (flC (picF f begins)) :: M) wx
theorem sendKeep {J : Img} {M : List Res} {w : World} {q5 p : Nat} {a b : Res} {P : Pk} {pv : Value} {f : Fl} (h : St J (a :: b :: bk q5 38 (pkC P pv) :: bk p 64 (flC f) :: M) w) :
    w.cell? ⟨q5, 0, none⟩ = some (.bool P.marker) ∧ w.cell? ⟨q5, 3, none⟩ = some (.int .u32 P.time) ∧ w.cell? ⟨q5, 7, none⟩ = some pv ∧ w.cell? ⟨p, 17, none⟩ = some (.int .u32 f.offset) :=
  ⟨Blk.cell (h.at 2 rfl) 0, Blk.cell (h.at 2 rfl) 3, Blk.cell (h.at 2 rfl) 7, Blk.cell (h.at 3 rfl) 17⟩
theorem sendKeep2 {J : Img} {M : List Res} {w : World} {q5 p : Nat} {a b : Res} {P : Pk} {pv : Value} {f : Fl} (h : St J (a :: b :: bk q5 38 (pkC P pv) :: bk p 64 (flC f) :: M) w) :
    w.cell? ⟨q5, 7, none⟩ = some pv ∧ w.cell? ⟨p, 18, none⟩ = some (.int .i64 f.picture) :=
  ⟨Blk.cell (h.at 2 rfl) 7, Blk.cell (h.at 3 rfl) 18⟩
theorem sendKeep3 {J : Img} {M : List Res} {w : World} {q5 q9 : Nat} {a b : Res} {P Q : Pk} {pv pv' : Value} (h : St J (a :: bk q9 38 (pkC Q pv') :: b :: bk q5 38 (pkC P pv) :: M) w) :
    w.cell? ⟨q5, 2, none⟩ = some (.int .u16 P.seq) ∧ w.cell? ⟨q9, 3, none⟩ = some (.int .u32 Q.time) :=
  ⟨Blk.cell (h.at 3 rfl) 2, Blk.cell (h.at 1 rfl) 3⟩
theorem res24 (w : World) (q8 : Nat) (P : Pk) (A : Option Addr) (n c : Nat) (tmps : Array Value) (ht : tmps[8]? = some (.pointer (some ⟨q8, 0, none⟩))) (h : Blk w q8 38 (pkC P (.slice A n c))) :
    (results Try.f24 tmps).run Try.prog w = .ok (.agg (pkC P (.slice A n c))) w := by
  have c0 := h.cell 0
  have c1 := h.cell 1
  have c2 := h.cell 2
  have c3 := h.cell 3
  have c4 := h.cell 4
  have c5 := h.cell 5
  have c6 := h.cell 6
  have c7 := h.cell 7
  have c8 := h.cell 8
  simp only [pkC, List.getElem?_toArray, List.getElem?_cons_zero, List.getElem?_cons_succ] at c0 c1 c2 c3 c4 c5 c6 c7 c8
  simp [results, Try.results24, go_sem, ht, c0, c1, c2, c3, c4, c5, c6, c7, c8]
theorem land15 {n : Int} (h0 : 0 ≤ n) (h1 : n ≤ 9223372036854775807) : bits BinOp.and IntKind.i64 n 32767 = n % 32768 := by
  obtain ⟨k, rfl⟩ := Int.eq_ofNat_of_zero_le h0
  have e2 : (BitVec.ofInt 64 ((k : Nat) : Int)).toNat = k := by
    rw [BitVec.ofInt_natCast, BitVec.toNat_ofNat]; exact Nat.mod_eq_of_lt (by omega)
  show IntKind.i64.wrap ((BitVec.ofInt 64 ((k : Nat) : Int) &&& BitVec.ofInt 64 32767).toNat : Int) = _
  rw [BitVec.toNat_and, e2, show (BitVec.ofInt 64 32767).toNat = 2 ^ 15 - 1 from rfl, Nat.and_two_pow_sub_one_eq_mod]
  rw [IntWalk.i64_in _ (by omega)]
  omega
set_option maxRecDepth 8000 in
set_option maxHeartbeats 8000000 in
theorem sendC (I : Img) (M : List Res) (w : World) (p : Nat) (f : Fl) (P : Pk) (A : Option Addr) (c : Nat) (bs : List UInt8) (begins : Bool) (now : Int) (hst : St I (bk p 64 (flC f) :: M) w) (hb : Byts I A bs) (hl : bs.length ≤ 140737488351232) (hok : f.ok) (hP : P.ok) :
    Calls Try.prog 24 #[.pointer (some ⟨p, 0, none⟩), .agg (pkC P (.slice A bs.length c)), .bool begins, .int .i64 now] w (Ret I (fun v _ M' => ∃ A' c', v = .agg (pkC (outP f P) (.slice A' (payS f begins bs).length c')) ∧ (payS f begins bs).length ≤ c' ∧
      M' = row 5 1 (.slice A' (payS f begins bs).length c') (payS f begins bs).length (bvs (payS f begins bs)) :: bk p 64 (flC (sendS f P begins now)) :: M)) := by
  have HB := Lib.hid hb
  obtain ⟨hc, hf, hlt⟩ := Blk.all hst.head
  obtain ⟨_, ⟨hs0, hs1⟩, ⟨ht0, ht1⟩, _, _, _, _, ⟨ho0, ho1⟩, ⟨hp0, hp1⟩⟩ := hok
  obtain ⟨⟨hq0, hq1⟩, ⟨hr0, hr1⟩⟩ := hP
  have hst1 := ((hst.alloc 38 (pkC P (.slice A bs.length c))).alloc 38 zeroC).alloc 38 #[.bool false, .int .i64 f.typ, .int .u16 f.seq, .int .u32 f.time, .int .u32 f.source, .slice none 0 0, .slice none 0 0, .slice none 0 0, .int .i64 0]
  simp only [World.size_alloc] at hst1
  clear hst hb
  go_enter Try.func24, Try.ntmps24
  go_upto_region 2 with fail
  generalize World.alloc (World.alloc (World.alloc w _) _) _ = w1 at hst1 ⊢
  clear hc hf hlt
  refine wp_region_held_drew (S := (fun w' => w'.cell? ⟨w.heap.size, 0, none⟩ = some (.bool P.marker) ∧ w'.cell? ⟨w.heap.size, 3, none⟩ = some (.int .u32 P.time) ∧ w'.cell? ⟨w.heap.size, 7, none⟩ = some (.slice A bs.length c) ∧ w'.cell? ⟨p, 17, none⟩ = some (.int .u32 f.offset))) (by kernel_rfl) (by (try dsimp only); first | exact sendKeep hst1.drew | exact sendKeep hst2.drop | exact sendKeep (hst2.set1 _ _).drop | exact sendKeep ((hst2.set1 _ _).set1 _ _).drop | exact sendKeep (((hst2.set1 _ _).set1 _ _).set1 _ _).drop) (fun hHeld => ?_)
  refine wpAnyH_take (i := 0) (oi := _) (v := ?_) rfl (by kernel_rfl) (by kernel_rfl) (by kernel_rfl) (fun _ _ _ h => h) (Or.inl ⟨by rfl, ?_⟩) (by assumption) ?_
  rotate_left
  · (intro w hSw; (try dsimp only at hSw); go_simp; try with_reducible rfl)
  try simp only [Act.put, List.getElem_toArray, List.getElem_cons_zero, List.getElem_cons_succ, List.setIfInBounds_toArray, List.set_cons_zero, List.set_cons_succ]
  refine wpAnyH_take (i := 1) (oi := _) (v := ?_) rfl (by kernel_rfl) (by kernel_rfl) (by kernel_rfl) (fun _ _ _ h => h) (Or.inl ⟨by rfl, ?_⟩) (by assumption) ?_
  rotate_left
  · (intro w hSw; (try dsimp only at hSw); go_simp; try with_reducible rfl)
  try simp only [Act.put, List.getElem_toArray, List.getElem_cons_zero, List.getElem_cons_succ, List.setIfInBounds_toArray, List.set_cons_zero, List.set_cons_succ]
  refine wpAnyH_take (i := 2) (oi := _) (v := ?_) rfl (by kernel_rfl) (by kernel_rfl) (by kernel_rfl) (fun _ _ _ h => h) (Or.inl ⟨by rfl, ?_⟩) (by assumption) ?_
  rotate_left
  · (intro w hSw; (try dsimp only at hSw); go_simp; try with_reducible rfl)
  try simp only [Act.put, List.getElem_toArray, List.getElem_cons_zero, List.getElem_cons_succ, List.setIfInBounds_toArray, List.set_cons_zero, List.set_cons_succ]
  refine wpAnyH_take (i := 3) (oi := _) (v := ?_) rfl (by kernel_rfl) (by kernel_rfl) (by kernel_rfl) (fun _ _ _ h => h) (Or.inl ⟨by rfl, ?_⟩) (by assumption) ?_
  rotate_left
  · (intro w hSw; (try dsimp only at hSw); go_simp; try with_reducible rfl)
  try simp only [Act.put, List.getElem_toArray, List.getElem_cons_zero, List.getElem_cons_succ, List.setIfInBounds_toArray, List.set_cons_zero, List.set_cons_succ]
  refine wpAnyH_take (i := 4) (oi := _) (v := ?_) rfl (by kernel_rfl) (by kernel_rfl) (by kernel_rfl) (fun _ _ _ h => h) (Or.inl ⟨by rfl, ?_⟩) (by assumption) ?_
  rotate_left
  · (intro w hSw; (try dsimp only at hSw); go_simp; try with_reducible rfl)
  try simp only [Act.put, List.getElem_toArray, List.getElem_cons_zero, List.getElem_cons_succ, List.setIfInBounds_toArray, List.set_cons_zero, List.set_cons_succ]
  refine wpAnyH_take (i := 5) (oi := _) (v := ?_) rfl (by kernel_rfl) (by kernel_rfl) (by kernel_rfl) (fun _ _ _ h => h) (Or.inl ⟨by rfl, ?_⟩) (by assumption) ?_
  rotate_left
  · (intro w hSw; (try dsimp only at hSw); go_simp; try with_reducible rfl)
  try simp only [Act.put, List.getElem_toArray, List.getElem_cons_zero, List.getElem_cons_succ, List.setIfInBounds_toArray, List.set_cons_zero, List.set_cons_succ]
  refine wpAnyH_take (i := 6) (oi := _) (v := ?_) rfl (by kernel_rfl) (by kernel_rfl) (by kernel_rfl) (fun _ _ _ h => h) (Or.inl ⟨by rfl, ?_⟩) (by assumption) ?_
  rotate_left
  · (intro w hSw; (try dsimp only at hSw); go_simp; try with_reducible rfl)
  try simp only [Act.put, List.getElem_toArray, List.getElem_cons_zero, List.getElem_cons_succ, List.setIfInBounds_toArray, List.set_cons_zero, List.set_cons_succ]
  refine wpAnyH_take (i := 7) (oi := _) (v := ?_) rfl (by kernel_rfl) (by kernel_rfl) (by kernel_rfl) (fun _ _ _ h => h) (Or.inl ⟨by rfl, ?_⟩) (by assumption) ?_
  rotate_left
  · (intro w hSw; (try dsimp only at hSw); go_simp; try with_reducible rfl)
  try simp only [Act.put, List.getElem_toArray, List.getElem_cons_zero, List.getElem_cons_succ, List.setIfInBounds_toArray, List.set_cons_zero, List.set_cons_succ]
  refine wpAnyH_take (i := 8) (oi := _) (v := ?_) rfl (by kernel_rfl) (by kernel_rfl) (by kernel_rfl) (fun _ _ _ h => h) (Or.inl ⟨by rfl, ?_⟩) (by assumption) ?_
  rotate_left
  · (intro w hSw; (try dsimp only at hSw); go_simp; try with_reducible rfl)
  try simp only [Act.put, List.getElem_toArray, List.getElem_cons_zero, List.getElem_cons_succ, List.setIfInBounds_toArray, List.set_cons_zero, List.set_cons_succ]
  refine wpAnyH_take (i := 9) (oi := _) (v := ?_) rfl (by kernel_rfl) (by kernel_rfl) (by kernel_rfl) (fun _ _ _ h => h) (Or.inl ⟨by rfl, ?_⟩) (by assumption) ?_
  rotate_left
  · (intro w hSw; (try dsimp only at hSw); go_simp; try with_reducible rfl)
  try simp only [Act.put, List.getElem_toArray, List.getElem_cons_zero, List.getElem_cons_succ, List.setIfInBounds_toArray, List.set_cons_zero, List.set_cons_succ]
  refine wpAnyH_take (i := 10) (oi := _) (v := ?_) rfl (by kernel_rfl) (by kernel_rfl) (by kernel_rfl) (fun _ _ _ h => h) (Or.inl ⟨by rfl, ?_⟩) (by assumption) ?_
  rotate_left
  · (intro w hSw; (try dsimp only at hSw); go_simp; try with_reducible rfl)
  try simp only [Act.put, List.getElem_toArray, List.getElem_cons_zero, List.getElem_cons_succ, List.setIfInBounds_toArray, List.set_cons_zero, List.set_cons_succ]
  refine wpAnyH_take (i := 12) (oi := _) (v := ?_) rfl (by kernel_rfl) (by kernel_rfl) (by kernel_rfl) (fun _ _ _ h => h) (Or.inl ⟨by rfl, ?_⟩) (by assumption) ?_
  rotate_left
  · (intro w hSw; (try dsimp only at hSw); go_simp; try with_reducible rfl)
  try simp only [Act.put, List.getElem_toArray, List.getElem_cons_zero, List.getElem_cons_succ, List.setIfInBounds_toArray, List.set_cons_zero, List.set_cons_succ]
  refine wpAnyH_ready (rs := [11]) (by kernel_rfl) (by simp) ?_
  refine AllReadyH.cons (o := _) rfl (fun K hK => ?_) AllReadyH.nil
  go_simp
  refine (clone A c bs hst1.drew HB.out hl).mono ?_; rintro e w2 ⟨_, J2, _, rfl, hle2, hst2, rfl, A2, c2, rfl, hc2, rfl⟩; obtain ⟨hc, hf, hlt⟩ := Blk.all (hst2.at 1 rfl)
  try clear hHeld
  refine hK.out _ _ (by (try dsimp only); first | exact sendKeep hst1.drew | exact sendKeep hst2.drop | exact sendKeep (hst2.set1 _ _).drop | exact sendKeep ((hst2.set1 _ _).set1 _ _).drop | exact sendKeep (((hst2.set1 _ _).set1 _ _).set1 _ _).drop) (fun hHeld => ?_)
  clear hK K
  try simp only [Act.put, List.getElem_toArray, List.getElem_cons_zero, List.getElem_cons_succ, List.setIfInBounds_toArray, List.set_cons_zero, List.set_cons_succ]
  refine wpAnyH_ready (rs := [13]) (by kernel_rfl) (by simp) ?_
  refine AllReadyH.cons (o := _) rfl (fun K hK => ?_) AllReadyH.nil
  go_simp
  try clear hHeld
  refine hK.out _ _ (by (try dsimp only); first | exact sendKeep hst1.drew | exact sendKeep hst2.drop | exact sendKeep (hst2.set1 _ _).drop | exact sendKeep ((hst2.set1 _ _).set1 _ _).drop | exact sendKeep (((hst2.set1 _ _).set1 _ _).set1 _ _).drop) (fun hHeld => ?_)
  clear hK K
  try simp only [Act.put, List.getElem_toArray, List.getElem_cons_zero, List.getElem_cons_succ, List.setIfInBounds_toArray, List.set_cons_zero, List.set_cons_succ]
  refine wpAnyH_take (i := 14) (oi := _) (v := ?_) rfl (by kernel_rfl) (by kernel_rfl) (by kernel_rfl) (fun _ _ _ h => h) (Or.inl ⟨by rfl, ?_⟩) (by assumption) ?_
  rotate_left
  · (intro w hSw; (try dsimp only at hSw); go_simp; try with_reducible rfl)
  try simp only [Act.put, List.getElem_toArray, List.getElem_cons_zero, List.getElem_cons_succ, List.setIfInBounds_toArray, List.set_cons_zero, List.set_cons_succ]
  refine wpAnyH_ready (rs := [15]) (by kernel_rfl) (by simp) ?_
  refine AllReadyH.cons (o := _) rfl (fun K hK => ?_) AllReadyH.nil
  go_simp
  try clear hHeld
  refine hK.out _ _ (by (try dsimp only); first | exact sendKeep hst1.drew | exact sendKeep hst2.drop | exact sendKeep (hst2.set1 _ _).drop | exact sendKeep ((hst2.set1 _ _).set1 _ _).drop | exact sendKeep (((hst2.set1 _ _).set1 _ _).set1 _ _).drop) (fun hHeld => ?_)
  clear hK K
  try simp only [Act.put, List.getElem_toArray, List.getElem_cons_zero, List.getElem_cons_succ, List.setIfInBounds_toArray, List.set_cons_zero, List.set_cons_succ]
  refine wpAnyH_take (i := 16) (oi := _) (v := ?_) rfl (by kernel_rfl) (by kernel_rfl) (by kernel_rfl) (fun _ _ _ h => h) (Or.inl ⟨by rfl, ?_⟩) (by assumption) ?_
  rotate_left
  · (intro w hSw; (try dsimp only at hSw); go_simp; try with_reducible rfl)
  try simp only [Act.put, List.getElem_toArray, List.getElem_cons_zero, List.getElem_cons_succ, List.setIfInBounds_toArray, List.set_cons_zero, List.set_cons_succ]
  refine wpAnyH_ready (rs := [17]) (by kernel_rfl) (by simp) ?_
  refine AllReadyH.cons (o := _) rfl (fun K hK => ?_) AllReadyH.nil
  go_simp
  try clear hHeld
  refine hK.out _ _ (by (try dsimp only); first | exact sendKeep hst1.drew | exact sendKeep hst2.drop | exact sendKeep (hst2.set1 _ _).drop | exact sendKeep ((hst2.set1 _ _).set1 _ _).drop | exact sendKeep (((hst2.set1 _ _).set1 _ _).set1 _ _).drop) (fun hHeld => ?_)
  clear hK K
  try simp only [Act.put, List.getElem_toArray, List.getElem_cons_zero, List.getElem_cons_succ, List.setIfInBounds_toArray, List.set_cons_zero, List.set_cons_succ]
  refine wpAnyH_done (by kernel_rfl) ?_ _
  have hst3 := ((hst2.set1 0 (.bool P.marker)).set1 3 (.int .u32 (IntKind.u32.wrap (P.time + f.offset)))).set1 7 (.slice A2 bs.length c2)
  generalize World.setCell (World.setCell (World.setCell _ _ _) _ _) _ _ = w3 at hst3 ⊢
  have et : IntKind.u32.wrap (P.time + f.offset) = (P.time + f.offset) % 4294967296 := by simp only [IntKind.wrap, IntKind.signed, IntKind.bits]; rfl
  rw [et] at hst3 ⊢
  clear hst1 hst2 hc hf hlt hHeld et
  obtain ⟨hc, hf, hlt⟩ := Blk.all (hst3.at 4 rfl)
  go_upto_if 33 with fail
  go_cut [] (fun wx => SendCut I M p w.heap.size (w.heap.size + 1) (w.heap.size + 1 + 1) f P (.slice A bs.length c) begins bs wx)
  case first =>
    cases t1 : (f.codec.toList == [86, 80, 56])
    · have e1 : payS f begins bs = bs := by simp [payS, isV, t1]
      have e2 : picF f begins = f := by simp [picF, isV, t1]
      have E := Lib.hid (And.intro e1 e2)
      clear e1 e2
      go_wp2
      go_meet
      obtain ⟨e1, e2⟩ := E.out
      unfold SendCut
      rw [e1, e2]
      exact ⟨I, A2, c2, .refl I, hc2, hst3⟩
    · have e1 : payS f begins bs = setS bs (picF f begins).picture := by simp [payS, isV, t1]
      have ea := land15 (n := f.picture + 1) (by omega) (by omega)
      cases begins
      · have e2 : picF f false = f := by simp [picF]
        rw [e2] at e1
        have E := Lib.hid (And.intro e1 e2)
        clear e1 e2
        go_upto_region 6 with fail
        refine wp_region_held_drew (S := (fun w' => w'.cell? ⟨w.heap.size, 7, none⟩ = some (.slice A bs.length c) ∧ w'.cell? ⟨p, 18, none⟩ = some (.int .i64 f.picture))) (by kernel_rfl) (by (try dsimp only); first | exact sendKeep2 hst3.drop.drew | exact sendKeep2 hst4.drop | exact sendKeep2 (hst4.set1 _ _).drop) (fun hHeld => ?_)
        refine wpAnyH_take (i := 0) (oi := _) (v := ?_) rfl (by kernel_rfl) (by kernel_rfl) (by kernel_rfl) (fun _ _ _ h => h) (Or.inl ⟨by rfl, ?_⟩) (by assumption) ?_
        rotate_left
        · (intro w hSw; (try dsimp only at hSw); go_simp; try with_reducible rfl)
        try simp only [Act.put, List.getElem_toArray, List.getElem_cons_zero, List.getElem_cons_succ, List.setIfInBounds_toArray, List.set_cons_zero, List.set_cons_succ]
        refine wpAnyH_take (i := 1) (oi := _) (v := ?_) rfl (by kernel_rfl) (by kernel_rfl) (by kernel_rfl) (fun _ _ _ h => h) (Or.inl ⟨by rfl, ?_⟩) (by assumption) ?_
        rotate_left
        · (intro w hSw; (try dsimp only at hSw); go_simp; try with_reducible rfl)
        try simp only [Act.put, List.getElem_toArray, List.getElem_cons_zero, List.getElem_cons_succ, List.setIfInBounds_toArray, List.set_cons_zero, List.set_cons_succ]
        refine wpAnyH_take (i := 2) (oi := _) (v := ?_) rfl (by kernel_rfl) (by kernel_rfl) (by kernel_rfl) (fun _ _ _ h => h) (Or.inl ⟨by rfl, ?_⟩) (by assumption) ?_
        rotate_left
        · (intro w hSw; (try dsimp only at hSw); go_simp; try with_reducible rfl)
        try simp only [Act.put, List.getElem_toArray, List.getElem_cons_zero, List.getElem_cons_succ, List.setIfInBounds_toArray, List.set_cons_zero, List.set_cons_succ]
        refine wpAnyH_take (i := 3) (oi := _) (v := ?_) rfl (by kernel_rfl) (by kernel_rfl) (by kernel_rfl) (fun _ _ _ h => h) (Or.inl ⟨by rfl, ?_⟩) (by assumption) ?_
        rotate_left
        · (intro w hSw; (try dsimp only at hSw); go_simp; try with_reducible rfl)
        try simp only [Act.put, List.getElem_toArray, List.getElem_cons_zero, List.getElem_cons_succ, List.setIfInBounds_toArray, List.set_cons_zero, List.set_cons_succ]
        refine wpAnyH_take (i := 4) (oi := _) (v := ?_) rfl (by kernel_rfl) (by kernel_rfl) (by kernel_rfl) (fun _ _ _ h => h) (Or.inl ⟨by rfl, ?_⟩) (by assumption) ?_
        rotate_left
        · (intro w hSw; (try dsimp only at hSw); go_simp; try with_reducible rfl)
        try simp only [Act.put, List.getElem_toArray, List.getElem_cons_zero, List.getElem_cons_succ, List.setIfInBounds_toArray, List.set_cons_zero, List.set_cons_succ]
        refine wpAnyH_take (i := 5) (oi := _) (v := ?_) rfl (by kernel_rfl) (by kernel_rfl) (by kernel_rfl) (fun _ _ _ h => h) (Or.inl ⟨by rfl, ?_⟩) (by assumption) ?_
        rotate_left
        · (intro w hSw; (try dsimp only at hSw); go_simp; try with_reducible rfl)
        try simp only [Act.put, List.getElem_toArray, List.getElem_cons_zero, List.getElem_cons_succ, List.setIfInBounds_toArray, List.set_cons_zero, List.set_cons_succ]
        refine wpAnyH_ready (rs := [6]) (by kernel_rfl) (by simp) ?_
        refine AllReadyH.cons (o := _) rfl (fun K hK => ?_) AllReadyH.nil
        go_simp
        refine (setP I _ _ A c bs f.picture hst3.drew HB.out hl (by omega) (by omega)).mono ?_; rintro e w4 ⟨_, J4, _, rfl, hle4, hst4, A4, c4, rfl, hc4, rfl⟩; replace hst4 := hst4.swap1.drop; obtain ⟨hc, hf, hlt⟩ := Blk.all (hst4.at 1 rfl)
        try clear hHeld
        refine hK.out _ _ (by (try dsimp only); first | exact sendKeep2 hst3.drop.drew | exact sendKeep2 hst4.drop | exact sendKeep2 (hst4.set1 _ _).drop) (fun hHeld => ?_)
        clear hK K
        try simp only [Act.put, List.getElem_toArray, List.getElem_cons_zero, List.getElem_cons_succ, List.setIfInBounds_toArray, List.set_cons_zero, List.set_cons_succ]
        refine wpAnyH_take (i := 7) (oi := _) (v := ?_) rfl (by kernel_rfl) (by kernel_rfl) (by kernel_rfl) (fun _ _ _ h => h) (Or.inl ⟨by rfl, ?_⟩) (by assumption) ?_
        rotate_left
        · (intro w hSw; (try dsimp only at hSw); go_simp; try with_reducible rfl)
        try simp only [Act.put, List.getElem_toArray, List.getElem_cons_zero, List.getElem_cons_succ, List.setIfInBounds_toArray, List.set_cons_zero, List.set_cons_succ]
        refine wpAnyH_ready (rs := [8]) (by kernel_rfl) (by simp) ?_
        refine AllReadyH.cons (o := _) rfl (fun K hK => ?_) AllReadyH.nil
        go_simp
        try clear hHeld
        refine hK.out _ _ (by (try dsimp only); first | exact sendKeep2 hst3.drop.drew | exact sendKeep2 hst4.drop | exact sendKeep2 (hst4.set1 _ _).drop) (fun hHeld => ?_)
        clear hK K
        try simp only [Act.put, List.getElem_toArray, List.getElem_cons_zero, List.getElem_cons_succ, List.setIfInBounds_toArray, List.set_cons_zero, List.set_cons_succ]
        refine wpAnyH_done (by kernel_rfl) ?_ _
        go_wp2
        go_meet
        obtain ⟨e1, e2⟩ := E.out
        unfold SendCut
        rw [e1, e2]
        exact ⟨J4, A4, c4, hle4, hc4, hst4.set1 7 _⟩
      · have e2 : picF f true = { f with picture := (f.picture + 1) % 32768 } := by simp [picF, isV, t1]
        rw [e2] at e1
        have E := Lib.hid (And.intro e1 e2)
        clear e1 e2
        have hst5 := hst3.set4 18 (.int .i64 ((f.picture + 1) % 32768))
        go_upto_region 6 with fail
        generalize World.setCell _ _ _ = w5 at hst5 ⊢
        clear hc hf hlt
        refine wp_region_held_drew (S := (fun w' => w'.cell? ⟨w.heap.size, 7, none⟩ = some (.slice A bs.length c) ∧ w'.cell? ⟨p, 18, none⟩ = some (.int .i64 ((f.picture + 1) % 32768)))) (by kernel_rfl) (by (try dsimp only); first | exact sendKeep2 (f := { f with picture := (f.picture + 1) % 32768 }) hst5.drop.drew | exact sendKeep2 (f := { f with picture := (f.picture + 1) % 32768 }) hst4.drop | exact sendKeep2 (f := { f with picture := (f.picture + 1) % 32768 }) (hst4.set1 _ _).drop) (fun hHeld => ?_)
        refine wpAnyH_take (i := 0) (oi := _) (v := ?_) rfl (by kernel_rfl) (by kernel_rfl) (by kernel_rfl) (fun _ _ _ h => h) (Or.inl ⟨by rfl, ?_⟩) (by assumption) ?_
        rotate_left
        · (intro w hSw; (try dsimp only at hSw); go_simp; try with_reducible rfl)
        try simp only [Act.put, List.getElem_toArray, List.getElem_cons_zero, List.getElem_cons_succ, List.setIfInBounds_toArray, List.set_cons_zero, List.set_cons_succ]
        refine wpAnyH_take (i := 1) (oi := _) (v := ?_) rfl (by kernel_rfl) (by kernel_rfl) (by kernel_rfl) (fun _ _ _ h => h) (Or.inl ⟨by rfl, ?_⟩) (by assumption) ?_
        rotate_left
        · (intro w hSw; (try dsimp only at hSw); go_simp; try with_reducible rfl)
        try simp only [Act.put, List.getElem_toArray, List.getElem_cons_zero, List.getElem_cons_succ, List.setIfInBounds_toArray, List.set_cons_zero, List.set_cons_succ]
        refine wpAnyH_take (i := 2) (oi := _) (v := ?_) rfl (by kernel_rfl) (by kernel_rfl) (by kernel_rfl) (fun _ _ _ h => h) (Or.inl ⟨by rfl, ?_⟩) (by assumption) ?_
        rotate_left
        · (intro w hSw; (try dsimp only at hSw); go_simp; try with_reducible rfl)
        try simp only [Act.put, List.getElem_toArray, List.getElem_cons_zero, List.getElem_cons_succ, List.setIfInBounds_toArray, List.set_cons_zero, List.set_cons_succ]
        refine wpAnyH_take (i := 3) (oi := _) (v := ?_) rfl (by kernel_rfl) (by kernel_rfl) (by kernel_rfl) (fun _ _ _ h => h) (Or.inl ⟨by rfl, ?_⟩) (by assumption) ?_
        rotate_left
        · (intro w hSw; (try dsimp only at hSw); go_simp; try with_reducible rfl)
        try simp only [Act.put, List.getElem_toArray, List.getElem_cons_zero, List.getElem_cons_succ, List.setIfInBounds_toArray, List.set_cons_zero, List.set_cons_succ]
        refine wpAnyH_take (i := 4) (oi := _) (v := ?_) rfl (by kernel_rfl) (by kernel_rfl) (by kernel_rfl) (fun _ _ _ h => h) (Or.inl ⟨by rfl, ?_⟩) (by assumption) ?_
        rotate_left
        · (intro w hSw; (try dsimp only at hSw); go_simp; try with_reducible rfl)
        try simp only [Act.put, List.getElem_toArray, List.getElem_cons_zero, List.getElem_cons_succ, List.setIfInBounds_toArray, List.set_cons_zero, List.set_cons_succ]
        refine wpAnyH_take (i := 5) (oi := _) (v := ?_) rfl (by kernel_rfl) (by kernel_rfl) (by kernel_rfl) (fun _ _ _ h => h) (Or.inl ⟨by rfl, ?_⟩) (by assumption) ?_
        rotate_left
        · (intro w hSw; (try dsimp only at hSw); go_simp; try with_reducible rfl)
        try simp only [Act.put, List.getElem_toArray, List.getElem_cons_zero, List.getElem_cons_succ, List.setIfInBounds_toArray, List.set_cons_zero, List.set_cons_succ]
        refine wpAnyH_ready (rs := [6]) (by kernel_rfl) (by simp) ?_
        refine AllReadyH.cons (o := _) rfl (fun K hK => ?_) AllReadyH.nil
        go_simp
        refine (setP I _ _ A c bs ((f.picture + 1) % 32768) hst5.drew HB.out hl (by omega) (by omega)).mono ?_; rintro e w4 ⟨_, J4, _, rfl, hle4, hst4, A4, c4, rfl, hc4, rfl⟩; replace hst4 := hst4.swap1.drop; obtain ⟨hc, hf, hlt⟩ := Blk.all (hst4.at 1 rfl)
        try clear hHeld
        refine hK.out _ _ (by (try dsimp only); first | exact sendKeep2 (f := { f with picture := (f.picture + 1) % 32768 }) hst5.drop.drew | exact sendKeep2 (f := { f with picture := (f.picture + 1) % 32768 }) hst4.drop | exact sendKeep2 (f := { f with picture := (f.picture + 1) % 32768 }) (hst4.set1 _ _).drop) (fun hHeld => ?_)
        clear hK K
        try simp only [Act.put, List.getElem_toArray, List.getElem_cons_zero, List.getElem_cons_succ, List.setIfInBounds_toArray, List.set_cons_zero, List.set_cons_succ]
        refine wpAnyH_take (i := 7) (oi := _) (v := ?_) rfl (by kernel_rfl) (by kernel_rfl) (by kernel_rfl) (fun _ _ _ h => h) (Or.inl ⟨by rfl, ?_⟩) (by assumption) ?_
        rotate_left
        · (intro w hSw; (try dsimp only at hSw); go_simp; try with_reducible rfl)
        try simp only [Act.put, List.getElem_toArray, List.getElem_cons_zero, List.getElem_cons_succ, List.setIfInBounds_toArray, List.set_cons_zero, List.set_cons_succ]
        refine wpAnyH_ready (rs := [8]) (by kernel_rfl) (by simp) ?_
        refine AllReadyH.cons (o := _) rfl (fun K hK => ?_) AllReadyH.nil
        go_simp
        try clear hHeld
        refine hK.out _ _ (by (try dsimp only); first | exact sendKeep2 (f := { f with picture := (f.picture + 1) % 32768 }) hst5.drop.drew | exact sendKeep2 (f := { f with picture := (f.picture + 1) % 32768 }) hst4.drop | exact sendKeep2 (f := { f with picture := (f.picture + 1) % 32768 }) (hst4.set1 _ _).drop) (fun hHeld => ?_)
        clear hK K
        try simp only [Act.put, List.getElem_toArray, List.getElem_cons_zero, List.getElem_cons_succ, List.setIfInBounds_toArray, List.set_cons_zero, List.set_cons_succ]
        refine wpAnyH_done (by kernel_rfl) ?_ _
        go_wp2
        go_meet
        obtain ⟨e1, e2⟩ := E.out
        unfold SendCut
        rw [e1, e2]
        exact ⟨J4, A4, c4, hle4, hc4, hst4.set1 7 _⟩
  case rest =>
    obtain ⟨J, A2, c2, hle, hc2, hst⟩ := hcut
    clear hc hf hlt hst3 HB
    obtain ⟨z, hz⟩ : ∃ z, picF f begins = { f with picture := z } := by unfold picF; split <;> exact ⟨_, rfl⟩
    obtain ⟨m, hm⟩ : ∃ m, m = if (!f.begun || decide (f.moment < now)) = true then now else f.moment := ⟨_, rfl⟩
    have hS : sendS f P begins now = { f with picture := z, moment := m, seq := (f.seq + 1) % 65536, time := (P.time + f.offset) % 4294967296, last := P.seq, begun := true } := by unfold sendS; rw [hz, hm]
    rw [hz] at hst
    have HS := Lib.hid hS
    have HM := Lib.hid hm
    have HH := Lib.hid hst
    clear hz hS hm
    obtain ⟨hc, hf, hlt⟩ := Blk.all (hst.at 4 rfl)
    clear hst
    go_upto_region 7 with fail
    go_cut [64] (fun v wx => v = .bool (!f.begun || decide (f.moment < now)) ∧ wx = wc)
    case first =>
      have hthree : f.begun = false ∨ f.begun = true ∧ decide (f.moment < now) = true ∨ f.begun = true ∧ decide (f.moment < now) = false := by cases f.begun <;> cases decide (f.moment < now) <;> simp
      rcases hthree with h1 | ⟨h1, h2⟩ | ⟨h1, h2⟩
      all_goals
        go_wp2
        go_meet
        simp [h1, *]
    case rest =>
      obtain ⟨rfl, rfl⟩ := hcut
      generalize (!f.begun || decide (f.moment < now)) = B at *
      go_upto_if 64 with fail
      go_cut [] (fun wx => St J (row 5 1 (.slice A2 (payS f begins bs).length c2) (payS f begins bs).length (bvs (payS f begins bs)) :: bk (w.heap.size + 1 + 1) 38 (pkC (outP f P) (.slice A2 (payS f begins bs).length c2)) :: bk (w.heap.size + 1) 38 zeroC :: bk w.heap.size 38 (pkC P (.slice A bs.length c)) :: bk p 64 (flC { f with picture := z, moment := m }) :: M) wx)
      case first =>
        have hm := HM.out
        cases B
        · go_wp2
          go_meet
          rw [hm]
          exact HH.out
        · go_wp2
          go_meet
          rw [hm]
          exact HH.out.set4 16 (.int .i64 now)
      case rest =>
        have hst := hcut.set4 4 (.int .u16 ((f.seq + 1) % 65536))
        clear hc hf hlt HH HM
        obtain ⟨hc, hf, hlt⟩ := Blk.all (hcut.at 4 rfl)
        have es : IntKind.u16.wrap (f.seq + 1) = (f.seq + 1) % 65536 := by simp only [IntKind.wrap, IntKind.signed, IntKind.bits]; rfl
        clear hcut
        go_upto_region 10 with fail
        generalize World.setCell _ _ _ = w6 at hst ⊢
        clear hc hf hlt es
        obtain ⟨hc, hf, hlt⟩ := Blk.all (hst.at 4 rfl)
        go_cut [] (fun wx => St J (row 5 1 (.slice A2 (payS f begins bs).length c2) (payS f begins bs).length (bvs (payS f begins bs)) :: bk (w.heap.size + 1 + 1) 38 (pkC (outP f P) (.slice A2 (payS f begins bs).length c2)) :: bk (w.heap.size + 1) 38 zeroC :: bk w.heap.size 38 (pkC P (.slice A bs.length c)) :: bk p 64 (flC (sendS f P begins now)) :: M) wx)
        case first =>
          refine wp_region_held_drew (S := (fun w' => w'.cell? ⟨w.heap.size, 2, none⟩ = some (.int .u16 P.seq) ∧ w'.cell? ⟨w.heap.size + 1 + 1, 3, none⟩ = some (.int .u32 (outP f P).time))) (by kernel_rfl) (by (try dsimp only); first | exact sendKeep3 hst.drew | exact sendKeep3 (hst.set4 _ _).drew | exact sendKeep3 ((hst.set4 _ _).set4 _ _).drew | exact sendKeep3 (((hst.set4 _ _).set4 _ _).set4 _ _).drew) (fun hHeld => ?_)
          refine wpAnyH_take (i := 0) (oi := _) (v := ?_) rfl (by kernel_rfl) (by kernel_rfl) (by kernel_rfl) (fun _ _ _ h => h) (Or.inl ⟨by rfl, ?_⟩) (by assumption) ?_
          rotate_left
          · (intro w hSw; (try dsimp only at hSw); go_simp; try with_reducible rfl)
          try simp only [Act.put, List.getElem_toArray, List.getElem_cons_zero, List.getElem_cons_succ, List.setIfInBounds_toArray, List.set_cons_zero, List.set_cons_succ]
          refine wpAnyH_take (i := 1) (oi := _) (v := ?_) rfl (by kernel_rfl) (by kernel_rfl) (by kernel_rfl) (fun _ _ _ h => h) (Or.inl ⟨by rfl, ?_⟩) (by assumption) ?_
          rotate_left
          · (intro w hSw; (try dsimp only at hSw); go_simp; try with_reducible rfl)
          try simp only [Act.put, List.getElem_toArray, List.getElem_cons_zero, List.getElem_cons_succ, List.setIfInBounds_toArray, List.set_cons_zero, List.set_cons_succ]
          refine wpAnyH_take (i := 2) (oi := _) (v := ?_) rfl (by kernel_rfl) (by kernel_rfl) (by kernel_rfl) (fun _ _ _ h => h) (Or.inl ⟨by rfl, ?_⟩) (by assumption) ?_
          rotate_left
          · (intro w hSw; (try dsimp only at hSw); go_simp; try with_reducible rfl)
          try simp only [Act.put, List.getElem_toArray, List.getElem_cons_zero, List.getElem_cons_succ, List.setIfInBounds_toArray, List.set_cons_zero, List.set_cons_succ]
          refine wpAnyH_take (i := 3) (oi := _) (v := ?_) rfl (by kernel_rfl) (by kernel_rfl) (by kernel_rfl) (fun _ _ _ h => h) (Or.inl ⟨by rfl, ?_⟩) (by assumption) ?_
          rotate_left
          · (intro w hSw; (try dsimp only at hSw); go_simp; try with_reducible rfl)
          try simp only [Act.put, List.getElem_toArray, List.getElem_cons_zero, List.getElem_cons_succ, List.setIfInBounds_toArray, List.set_cons_zero, List.set_cons_succ]
          refine wpAnyH_take (i := 4) (oi := _) (v := ?_) rfl (by kernel_rfl) (by kernel_rfl) (by kernel_rfl) (fun _ _ _ h => h) (Or.inl ⟨by rfl, ?_⟩) (by assumption) ?_
          rotate_left
          · (intro w hSw; (try dsimp only at hSw); go_simp; try with_reducible rfl)
          try simp only [Act.put, List.getElem_toArray, List.getElem_cons_zero, List.getElem_cons_succ, List.setIfInBounds_toArray, List.set_cons_zero, List.set_cons_succ]
          refine wpAnyH_take (i := 5) (oi := _) (v := ?_) rfl (by kernel_rfl) (by kernel_rfl) (by kernel_rfl) (fun _ _ _ h => h) (Or.inl ⟨by rfl, ?_⟩) (by assumption) ?_
          rotate_left
          · (intro w hSw; (try dsimp only at hSw); go_simp; try with_reducible rfl)
          try simp only [Act.put, List.getElem_toArray, List.getElem_cons_zero, List.getElem_cons_succ, List.setIfInBounds_toArray, List.set_cons_zero, List.set_cons_succ]
          refine wpAnyH_take (i := 6) (oi := _) (v := ?_) rfl (by kernel_rfl) (by kernel_rfl) (by kernel_rfl) (fun _ _ _ h => h) (Or.inl ⟨by rfl, ?_⟩) (by assumption) ?_
          rotate_left
          · (intro w hSw; (try dsimp only at hSw); go_simp; try with_reducible rfl)
          try simp only [Act.put, List.getElem_toArray, List.getElem_cons_zero, List.getElem_cons_succ, List.setIfInBounds_toArray, List.set_cons_zero, List.set_cons_succ]
          refine wpAnyH_take (i := 7) (oi := _) (v := ?_) rfl (by kernel_rfl) (by kernel_rfl) (by kernel_rfl) (fun _ _ _ h => h) (Or.inl ⟨by rfl, ?_⟩) (by assumption) ?_
          rotate_left
          · (intro w hSw; (try dsimp only at hSw); go_simp; try with_reducible rfl)
          try simp only [Act.put, List.getElem_toArray, List.getElem_cons_zero, List.getElem_cons_succ, List.setIfInBounds_toArray, List.set_cons_zero, List.set_cons_succ]
          refine wpAnyH_take (i := 8) (oi := _) (v := ?_) rfl (by kernel_rfl) (by kernel_rfl) (by kernel_rfl) (fun _ _ _ h => h) (Or.inl ⟨by rfl, ?_⟩) (by assumption) ?_
          rotate_left
          · (intro w hSw; (try dsimp only at hSw); go_simp; try with_reducible rfl)
          try simp only [Act.put, List.getElem_toArray, List.getElem_cons_zero, List.getElem_cons_succ, List.setIfInBounds_toArray, List.set_cons_zero, List.set_cons_succ]
          refine wpAnyH_take (i := 9) (oi := _) (v := ?_) rfl (by kernel_rfl) (by kernel_rfl) (by kernel_rfl) (fun _ _ _ h => h) (Or.inl ⟨by rfl, ?_⟩) (by assumption) ?_
          rotate_left
          · (intro w hSw; (try dsimp only at hSw); go_simp; try with_reducible rfl)
          try simp only [Act.put, List.getElem_toArray, List.getElem_cons_zero, List.getElem_cons_succ, List.setIfInBounds_toArray, List.set_cons_zero, List.set_cons_succ]
          refine wpAnyH_ready (rs := [10]) (by kernel_rfl) (by simp) ?_
          refine AllReadyH.cons (o := _) rfl (fun K hK => ?_) AllReadyH.nil
          go_simp
          try clear hHeld
          refine hK.out _ _ (by (try dsimp only); first | exact sendKeep3 hst.drew | exact sendKeep3 (hst.set4 _ _).drew | exact sendKeep3 ((hst.set4 _ _).set4 _ _).drew | exact sendKeep3 (((hst.set4 _ _).set4 _ _).set4 _ _).drew) (fun hHeld => ?_)
          clear hK K
          try simp only [Act.put, List.getElem_toArray, List.getElem_cons_zero, List.getElem_cons_succ, List.setIfInBounds_toArray, List.set_cons_zero, List.set_cons_succ]
          refine wpAnyH_take (i := 11) (oi := _) (v := ?_) rfl (by kernel_rfl) (by kernel_rfl) (by kernel_rfl) (fun _ _ _ h => h) (Or.inl ⟨by rfl, ?_⟩) (by assumption) ?_
          rotate_left
          · (intro w hSw; (try dsimp only at hSw); go_simp; try with_reducible rfl)
          try simp only [Act.put, List.getElem_toArray, List.getElem_cons_zero, List.getElem_cons_succ, List.setIfInBounds_toArray, List.set_cons_zero, List.set_cons_succ]
          refine wpAnyH_take (i := 12) (oi := _) (v := ?_) rfl (by kernel_rfl) (by kernel_rfl) (by kernel_rfl) (fun _ _ _ h => h) (Or.inl ⟨by rfl, ?_⟩) (by assumption) ?_
          rotate_left
          · (intro w hSw; (try dsimp only at hSw); go_simp; try with_reducible rfl)
          try simp only [Act.put, List.getElem_toArray, List.getElem_cons_zero, List.getElem_cons_succ, List.setIfInBounds_toArray, List.set_cons_zero, List.set_cons_succ]
          refine wpAnyH_ready (rs := [13]) (by kernel_rfl) (by simp) ?_
          refine AllReadyH.cons (o := _) rfl (fun K hK => ?_) AllReadyH.nil
          go_simp
          try clear hHeld
          refine hK.out _ _ (by (try dsimp only); first | exact sendKeep3 hst.drew | exact sendKeep3 (hst.set4 _ _).drew | exact sendKeep3 ((hst.set4 _ _).set4 _ _).drew | exact sendKeep3 (((hst.set4 _ _).set4 _ _).set4 _ _).drew) (fun hHeld => ?_)
          clear hK K
          try simp only [Act.put, List.getElem_toArray, List.getElem_cons_zero, List.getElem_cons_succ, List.setIfInBounds_toArray, List.set_cons_zero, List.set_cons_succ]
          refine wpAnyH_take (i := 14) (oi := _) (v := ?_) rfl (by kernel_rfl) (by kernel_rfl) (by kernel_rfl) (fun _ _ _ h => h) (Or.inl ⟨by rfl, ?_⟩) (by assumption) ?_
          rotate_left
          · (intro w hSw; (try dsimp only at hSw); go_simp; try with_reducible rfl)
          try simp only [Act.put, List.getElem_toArray, List.getElem_cons_zero, List.getElem_cons_succ, List.setIfInBounds_toArray, List.set_cons_zero, List.set_cons_succ]
          refine wpAnyH_take (i := 15) (oi := _) (v := ?_) rfl (by kernel_rfl) (by kernel_rfl) (by kernel_rfl) (fun _ _ _ h => h) (Or.inl ⟨by rfl, ?_⟩) (by assumption) ?_
          rotate_left
          · (intro w hSw; (try dsimp only at hSw); go_simp; try with_reducible rfl)
          try simp only [Act.put, List.getElem_toArray, List.getElem_cons_zero, List.getElem_cons_succ, List.setIfInBounds_toArray, List.set_cons_zero, List.set_cons_succ]
          refine wpAnyH_ready (rs := [16]) (by kernel_rfl) (by simp) ?_
          refine AllReadyH.cons (o := _) rfl (fun K hK => ?_) AllReadyH.nil
          go_simp
          try clear hHeld
          refine hK.out _ _ (by (try dsimp only); first | exact sendKeep3 hst.drew | exact sendKeep3 (hst.set4 _ _).drew | exact sendKeep3 ((hst.set4 _ _).set4 _ _).drew | exact sendKeep3 (((hst.set4 _ _).set4 _ _).set4 _ _).drew) (fun hHeld => ?_)
          clear hK K
          try simp only [Act.put, List.getElem_toArray, List.getElem_cons_zero, List.getElem_cons_succ, List.setIfInBounds_toArray, List.set_cons_zero, List.set_cons_succ]
          refine wpAnyH_done (by kernel_rfl) ?_ _
          go_wp2
          go_meet
          rw [HS.out]
          exact (((hst.set4 5 (.int .u32 (outP f P).time)).set4 15 (.int .u16 P.seq)).set4 14 (.bool true)).drew
        case rest =>
          clear hc hf hlt hst
          obtain ⟨hc9, hf9, hlt9⟩ := Blk.all (hcut.at 1 rfl)
          obtain ⟨hc8, hf8, hlt8⟩ := Blk.all (hcut.at 2 rfl)
          have H7 := Lib.hid hcut
          clear hcut HS
          generalize wc = w7 at *
          go_upto_region 11 with fail
          go_cut [] (fun wx => St J (row 5 1 (.slice A2 (payS f begins bs).length c2) (payS f begins bs).length (bvs (payS f begins bs)) :: bk (w.heap.size + 1 + 1) 38 (pkC (outP f P) (.slice A2 (payS f begins bs).length c2)) :: bk (w.heap.size + 1) 38 (pkC (outP f P) (.slice A2 (payS f begins bs).length c2)) :: bk w.heap.size 38 (pkC P (.slice A bs.length c)) :: bk p 64 (flC (sendS f P begins now)) :: M) wx)
          case first =>
            clear hc9 hf9 hlt9 hc8 hf8 hlt8
            have hs1 : Blk w7 (w.heap.size + 1 + 1) 38 _ := H7.out.at 1 rfl
            have hs2 : Blk w7 (w.heap.size + 1) 38 _ := H7.out.at 2 rfl
            obtain ⟨fs, hd⟩ := pkD
            go_wp2_with (first | refine wpList_load_row rfl 38 (.tmp 9) rfl (w.heap.size + 1 + 1) rfl 38 _ (0, 0) _ hs1 hd rfl pkI ?_ | refine wpList_store_row rfl 38 (.tmp 8) (.tmp 92) rfl (w.heap.size + 1) (pkC (outP f P) (.slice A2 (payS f begins bs).length c2)) rfl rfl 38 _ hs2 pkI rfl (outOne f P _ _ _) ?_)
            go_meet
            exact H7.out.setR2 _
          case rest =>
            go_upto_region 12 with fail
            refine bodyPost_ret (res24 _ _ (outP f P) A2 _ c2 _ rfl (hcut.at 2 rfl)) rfl ?_
            exact Ret.mk hle hcut.swap1.drop.swap1.drop.swap1.drop ⟨A2, c2, rfl, hc2, rfl⟩
end Go.Proofs.Ytaemohkmingnpaa
