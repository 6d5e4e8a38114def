/- forward.Flow.Push. -/
import Derived.Test.YtaemohkmingnpaaFwC
namespace Go.Proofs.Ytaemohkmingnpaa
open Go.RowKit
set_option linter.unusedSimpArgs false

def frS (f : Fl) (bs : List UInt8) : Bool := (beginsS f.codec bs).1 && (beginsS f.codec bs).2
def pushS (f : Fl) (layer : Int) (P : Pk) (bs : List UInt8) (now : Int) : Fl × Bool × Bool :=
  if layer < 0 ∨ (layer ≠ f.layer ∧ layer ≠ f.wanted) then (f, false, false)
  else if layer ≠ f.layer then if frS f bs = true then ({ f with offset := (timeS f now - P.time) % 4294967296, layer := layer, broken := false }, true, false) else (f, false, true)
  else if before f.last P.seq = false then (f, false, false)
  else if frS f bs = false ∧ (f.broken = true ∨ P.seq ≠ (f.last + 1) % 65536) then ({ f with broken := true }, false, true)
  else ({ f with broken := false }, true, false)
def PushQ (M : List Res) (p : Nat) (f : Fl) (layer : Int) (P : Pk) (bs : List UInt8) (now : Int) (v : Value) (M' : List Res) : Prop :=
  (∃ f1, pushS f layer P bs now = (f1, true, false) ∧ ∃ A c, v = .tuple #[.agg (pkC (outP f1 P) (.slice A (payS f1 (beginsS f.codec bs).1 bs).length c)), .bool true, .bool false] ∧ (payS f1 (beginsS f.codec bs).1 bs).length ≤ c ∧
    M' = row 5 1 (.slice A (payS f1 (beginsS f.codec bs).1 bs).length c) (payS f1 (beginsS f.codec bs).1 bs).length (bvs (payS f1 (beginsS f.codec bs).1 bs)) :: bk p 64 (flC (sendS f1 P (beginsS f.codec bs).1 now)) :: M) ∨
  (∃ f1 ask, pushS f layer P bs now = (f1, false, ask) ∧ v = .tuple #[.agg zeroC, .bool false, .bool ask] ∧ M' = bk p 64 (flC f1) :: M)
def zeroP : Pk := ⟨false, 0, 0, 0, 0, .slice none 0 0, .slice none 0 0, 0⟩
theorem res11 (w : World) (q8 : Nat) (P : Pk) (A : Option Addr) (n c : Nat) (tmps : Array Value) (x y : Value) (ht : tmps[8]? = some (.pointer (some ⟨q8, 0, none⟩))) (hx : tmps[9]? = some x) (hy : tmps[10]? = some y) (h : Blk w q8 38 (pkC P (.slice A n c))) :
    (results Try.f11 tmps).run Try.prog w = .ok (.tuple #[.agg (pkC P (.slice A n c)), x, y]) w := by
  have c0 := h.cell 0
  have c1 := h.cell 1
  have c2 := h.cell 2
  have c3 := h.cell 3
  have c4 := h.cell 4
  have c5 := h.cell 5
  have c6 := h.cell 6
  have c7 := h.cell 7
  have c8 := h.cell 8
  simp only [pkC, List.getElem?_toArray, List.getElem?_cons_zero, List.getElem?_cons_succ] at c0 c1 c2 c3 c4 c5 c6 c7 c8
  simp [results, Try.results11, go_sem, ht, hx, hy, c0, c1, c2, c3, c4, c5, c6, c7, c8]
theorem St.setR3 {I : Img} {M : List Res} {w : World} {a b c : Res} {g : Nat} {t : TypeId} {cs : Array Value} (h : St I (a :: b :: c :: bk g t cs :: M) w) (cs' : Array Value) : St I (a :: b :: c :: bk g t cs' :: M) (w.setRow g cs') := (h.swap3.setR cs').swap3
theorem u32_mod (x : Int) : IntKind.u32.wrap x = x % 4294967296 := by simp only [IntKind.wrap, IntKind.signed, IntKind.bits]; rfl
theorem u16_mod (x : Int) : IntKind.u16.wrap x = x % 65536 := by simp only [IntKind.wrap, IntKind.signed, IntKind.bits]; rfl
theorem ask_yes {fr bk : Bool} {a b : Int} (h : true = ((bk && !fr) || (a != b && !fr))) : fr = false ∧ (bk = true ∨ a ≠ b) := by cases fr <;> cases bk <;> simp_all
theorem ask_no {fr bk : Bool} {a b : Int} (h : false = ((bk && !fr) || (a != b && !fr))) : ¬ (fr = false ∧ (bk = true ∨ a ≠ b)) := by cases fr <;> cases bk <;> simp_all
theorem zeroOne : zeroC.all (·.oneCell') = true := by simp [Value.oneCell']
theorem beginsP2 (I : Img) (M : List Res) (w : World) (cd : ByteArray) (A : Option Addr) (c : Nat) (b : List UInt8) (b1 b2 : Bool) (h : beginsS cd b = (b1, b2)) (hst : St I M w) (hb : Byts I A b) (hl : b.length ≤ 140737488351232) :
    Calls Try.prog 21 #[.string cd, .slice A b.length c] w (Ret I (fun v _ M' => v = .tuple #[.bool b1, .bool b2] ∧ M' = M)) := by
  have := beginsP I M w cd A c b hst hb hl
  rw [h] at this
  exact this
theorem pushKeep {J : Img} {M : List Res} {w : World} {q6 p : Nat} {a : Res} {P : Pk} {pv : Value} {f : Fl} (h : St J (a :: bk q6 38 (pkC P pv) :: bk p 64 (flC f) :: M) w) :
    w.cell? ⟨q6, 7, none⟩ = some pv ∧ w.cell? ⟨p, 0, none⟩ = some (.string f.codec) :=
  ⟨Blk.cell (h.at 1 rfl) 7, Blk.cell (h.at 2 rfl) 0⟩
set_option maxRecDepth 8000 in
set_option maxHeartbeats 8000000 in
theorem pushC (I : Img) (M : List Res) (w : World) (p : Nat) (f : Fl) (P : Pk) (A : Option Addr) (c : Nat) (bs : List UInt8) (layer now : Int) (hst : St I (bk p 64 (flC f) :: M) w) (hb : Byts I A bs) (hl : bs.length ≤ 140737488351232) (hok : f.ok) (hP : P.ok) (hn : -9223372036854775808 ≤ now ∧ now ≤ 9223372036854775807) :
    Calls Try.prog 11 #[.pointer (some ⟨p, 0, none⟩), .int .i64 layer, .agg (pkC P (.slice A bs.length c)), .int .i64 now] w (Ret I (fun v _ M' => PushQ M p f layer P bs now v M')) := by
  have HB := Lib.hid hb
  obtain ⟨hc, hf, hlt⟩ := Blk.all hst.head
  rcases hbb : beginsS f.codec bs with ⟨b1, b2⟩
  have HBB := Lib.hid hbb
  have hst1 := (hst.alloc 38 (pkC P (.slice A bs.length c))).alloc 38 zeroC
  simp only [World.size_alloc] at hst1
  clear hst hb hbb
  go_enter Try.func11, Try.ntmps11
  go_upto_region 3 with fail
  generalize World.alloc (World.alloc w _) _ = w1 at hst1 ⊢
  clear hc hf hlt
  refine wp_region_held_drew (S := (fun w' => w'.cell? ⟨w.heap.size, 7, none⟩ = some (.slice A bs.length c) ∧ w'.cell? ⟨p, 0, none⟩ = some (.string f.codec))) (by kernel_rfl) (by (try dsimp only); first | exact pushKeep hst1.drew | exact pushKeep hst2) (fun hHeld => ?_)
  refine wpAnyH_take (i := 0) (oi := _) (v := ?_) rfl (by kernel_rfl) (by kernel_rfl) (by kernel_rfl) (fun _ _ _ h => h) (Or.inl ⟨by rfl, ?_⟩) (by assumption) ?_
  rotate_left
  · (intro w hSw; (try dsimp only at hSw); go_simp; try with_reducible rfl)
  try simp only [Act.put, List.getElem_toArray, List.getElem_cons_zero, List.getElem_cons_succ, List.setIfInBounds_toArray, List.set_cons_zero, List.set_cons_succ]
  refine wpAnyH_take (i := 1) (oi := _) (v := ?_) rfl (by kernel_rfl) (by kernel_rfl) (by kernel_rfl) (fun _ _ _ h => h) (Or.inl ⟨by rfl, ?_⟩) (by assumption) ?_
  rotate_left
  · (intro w hSw; (try dsimp only at hSw); go_simp; try with_reducible rfl)
  try simp only [Act.put, List.getElem_toArray, List.getElem_cons_zero, List.getElem_cons_succ, List.setIfInBounds_toArray, List.set_cons_zero, List.set_cons_succ]
  refine wpAnyH_take (i := 2) (oi := _) (v := ?_) rfl (by kernel_rfl) (by kernel_rfl) (by kernel_rfl) (fun _ _ _ h => h) (Or.inl ⟨by rfl, ?_⟩) (by assumption) ?_
  rotate_left
  · (intro w hSw; (try dsimp only at hSw); go_simp; try with_reducible rfl)
  try simp only [Act.put, List.getElem_toArray, List.getElem_cons_zero, List.getElem_cons_succ, List.setIfInBounds_toArray, List.set_cons_zero, List.set_cons_succ]
  refine wpAnyH_take (i := 3) (oi := _) (v := ?_) rfl (by kernel_rfl) (by kernel_rfl) (by kernel_rfl) (fun _ _ _ h => h) (Or.inl ⟨by rfl, ?_⟩) (by assumption) ?_
  rotate_left
  · (intro w hSw; (try dsimp only at hSw); go_simp; try with_reducible rfl)
  try simp only [Act.put, List.getElem_toArray, List.getElem_cons_zero, List.getElem_cons_succ, List.setIfInBounds_toArray, List.set_cons_zero, List.set_cons_succ]
  refine wpAnyH_take (i := 4) (oi := _) (v := ?_) rfl (by kernel_rfl) (by kernel_rfl) (by kernel_rfl) (fun _ _ _ h => h) (Or.inl ⟨by rfl, ?_⟩) (by assumption) ?_
  rotate_left
  · (intro w hSw; (try dsimp only at hSw); go_simp; try with_reducible rfl)
  try simp only [Act.put, List.getElem_toArray, List.getElem_cons_zero, List.getElem_cons_succ, List.setIfInBounds_toArray, List.set_cons_zero, List.set_cons_succ]
  refine wpAnyH_take (i := 5) (oi := _) (v := ?_) rfl (by kernel_rfl) (by kernel_rfl) (by kernel_rfl) (fun _ _ _ h => h) (Or.inl ⟨by rfl, ?_⟩) (by assumption) ?_
  rotate_left
  · (intro w hSw; (try dsimp only at hSw); go_simp; try with_reducible rfl)
  try simp only [Act.put, List.getElem_toArray, List.getElem_cons_zero, List.getElem_cons_succ, List.setIfInBounds_toArray, List.set_cons_zero, List.set_cons_succ]
  refine wpAnyH_ready (rs := [6]) (by kernel_rfl) (by simp) ?_
  refine AllReadyH.cons (o := _) rfl (fun K hK => ?_) AllReadyH.nil
  go_simp
  refine (beginsP2 I _ _ f.codec A c bs b1 b2 HBB.out hst1.drew HB.out hl).mono ?_; rintro e w2 ⟨_, J2, _, rfl, hle2, hst2, rfl, rfl⟩
  try clear hHeld
  refine hK.out _ _ (by (try dsimp only); first | exact pushKeep hst1.drew | exact pushKeep hst2) (fun hHeld => ?_)
  clear hK K
  try simp only [Act.put, List.getElem_toArray, List.getElem_cons_zero, List.getElem_cons_succ, List.setIfInBounds_toArray, List.set_cons_zero, List.set_cons_succ]
  refine wpAnyH_take (i := 7) (oi := _) (v := ?_) rfl (by kernel_rfl) (by kernel_rfl) (by kernel_rfl) (fun _ _ _ h => h) (Or.inl ⟨by rfl, ?_⟩) (by assumption) ?_
  rotate_left
  · (intro w hSw; (try dsimp only at hSw); go_simp; try with_reducible rfl)
  try simp only [Act.put, List.getElem_toArray, List.getElem_cons_zero, List.getElem_cons_succ, List.setIfInBounds_toArray, List.set_cons_zero, List.set_cons_succ]
  refine wpAnyH_take (i := 8) (oi := _) (v := ?_) rfl (by kernel_rfl) (by kernel_rfl) (by kernel_rfl) (fun _ _ _ h => h) (Or.inl ⟨by rfl, ?_⟩) (by assumption) ?_
  rotate_left
  · (intro w hSw; (try dsimp only at hSw); go_simp; try with_reducible rfl)
  try simp only [Act.put, List.getElem_toArray, List.getElem_cons_zero, List.getElem_cons_succ, List.setIfInBounds_toArray, List.set_cons_zero, List.set_cons_succ]
  refine wpAnyH_take (i := 9) (oi := _) (v := ?_) rfl (by kernel_rfl) (by kernel_rfl) (by kernel_rfl) (fun _ _ _ h => h) (Or.inl ⟨by rfl, ?_⟩) (by assumption) ?_
  rotate_left
  · (intro w hSw; (try dsimp only at hSw); go_simp; try with_reducible rfl)
  try simp only [Act.put, List.getElem_toArray, List.getElem_cons_zero, List.getElem_cons_succ, List.setIfInBounds_toArray, List.set_cons_zero, List.set_cons_succ]
  refine wpAnyH_take (i := 10) (oi := _) (v := ?_) rfl (by kernel_rfl) (by kernel_rfl) (by kernel_rfl) (fun _ _ _ h => h) (Or.inl ⟨by rfl, ?_⟩) (by assumption) ?_
  rotate_left
  · (intro w hSw; (try dsimp only at hSw); go_simp; try with_reducible rfl)
  try simp only [Act.put, List.getElem_toArray, List.getElem_cons_zero, List.getElem_cons_succ, List.setIfInBounds_toArray, List.set_cons_zero, List.set_cons_succ]
  refine wpAnyH_take (i := 11) (oi := _) (v := ?_) rfl (by kernel_rfl) (by kernel_rfl) (by kernel_rfl) (fun _ _ _ h => h) (Or.inl ⟨by rfl, ?_⟩) (by assumption) ?_
  rotate_left
  · (intro w hSw; (try dsimp only at hSw); go_simp; try with_reducible rfl)
  try simp only [Act.put, List.getElem_toArray, List.getElem_cons_zero, List.getElem_cons_succ, List.setIfInBounds_toArray, List.set_cons_zero, List.set_cons_succ]
  refine wpAnyH_done (by kernel_rfl) ?_ _
  clear hst1 hHeld
  obtain ⟨hc, hf, hlt⟩ := Blk.all (hst2.at 2 rfl)
  obtain ⟨hc6, hf6, hlt6⟩ := Blk.all (hst2.at 1 rfl)
  go_upto_region 4 with fail
  go_cut [13] (fun v wx => v = .bool (b1 && b2) ∧ wx = w2)
  case first =>
    cases b1 <;> cases b2 <;> (go_wp2; go_meet; exact ⟨rfl, rfl⟩)
  case rest =>
    obtain ⟨rfl, rfl⟩ := hcut
    obtain ⟨fr, hfr⟩ : ∃ fr, fr = (b1 && b2) := ⟨_, rfl⟩
    have HF := Lib.hid hfr
    rw [← hfr]
    clear hfr
    have HP := Lib.hid (show pushS f layer P bs now = if layer < 0 ∨ (layer ≠ f.layer ∧ layer ≠ f.wanted) then (f, false, false)
      else if layer ≠ f.layer then if fr = true then ({ f with offset := (timeS f now - P.time) % 4294967296, layer := layer, broken := false }, true, false) else (f, false, true)
      else if before f.last P.seq = false then (f, false, false)
      else if fr = false ∧ (f.broken = true ∨ P.seq ≠ (f.last + 1) % 65536) then ({ f with broken := true }, false, true)
      else ({ f with broken := false }, true, false) by unfold pushS frS; rw [HBB.out, HF.out])
    obtain ⟨fs, hd⟩ := pkD
    have hs8 : Blk wc (w.heap.size + 1) 38 zeroC := hst2.at 0 rfl
    have HH := Lib.hid hst2
    clear hst2
    by_cases h1 : layer < 0
    · go_upto_region 99 with (refine wpList_store_row rfl 38 (.tmp 8) (.tmp _) rfl (w.heap.size + 1) zeroC rfl rfl 38 _ hs8 pkI rfl zeroOne ?_)
      refine bodyPost_ret (res11 _ _ zeroP none 0 0 _ _ _ rfl rfl rfl ((HH.out.setR zeroC).at 0 rfl)) rfl ?_
      exact Ret.mk hle2 (HH.out.setR zeroC).drop.drop (.inr ⟨f, false, by rw [HP.out, if_pos (.inl h1)], rfl, rfl⟩)
    · have HN1 := Lib.hid h1
      by_cases h2 : layer = f.layer
      · subst h2
        clear hs8
        have HP2 : Hid (pushS f f.layer P bs now = if before f.last P.seq = false then (f, false, false)
          else if fr = false ∧ (f.broken = true ∨ P.seq ≠ (f.last + 1) % 65536) then ({ f with broken := true }, false, true)
          else ({ f with broken := false }, true, false)) := Lib.hid (by rw [HP.out, if_neg (by have := HN1.out; omega), if_neg (by omega)])
        clear HP
        obtain ⟨bf, hbf⟩ : ∃ bf, bf = before f.last P.seq := ⟨_, rfl⟩
        have hbc : ∀ w, Calls Try.prog 23 #[.int .u16 f.last, .int .u16 P.seq] w fun e w' => e = .returned (.bool bf) ∧ w' = w := fun w => (beforeC w f.last P.seq).mono fun _ _ ⟨h1, h2⟩ => ⟨by rw [h1, hbf], h2.symm⟩
        rw [← hbf] at HP2
        clear hbf
        cases bf
        · go_upto_region 14 with fail
          go_quiet ((go_at_call 23; exact Calls.quiet_of_same (hbc _)))
          have hs8 : Blk (wc.drewN nq) (w.heap.size + 1) 38 zeroC := (HH.out.drewN nq).at 0 rfl
          go_upto_region 99 with (refine wpList_store_row rfl 38 (.tmp 8) (.tmp _) rfl (w.heap.size + 1) zeroC rfl rfl 38 _ hs8 pkI rfl zeroOne ?_)
          refine bodyPost_ret (res11 _ _ zeroP none 0 0 _ _ _ rfl rfl rfl (((HH.out.drewN nq).setR zeroC).at 0 rfl)) rfl ?_
          exact Ret.mk hle2 ((HH.out.drewN nq).setR zeroC).drop.drop (.inr ⟨f, false, by rw [HP2.out, if_pos trivial], rfl, rfl⟩)
        · go_upto_region 14 with fail
          go_quiet ((go_at_call 23; exact Calls.quiet_of_same (hbc _)))
          have HH5 := HH.out.drewN nq
          generalize wc.drewN nq = w5 at HH5 ⊢
          clear hc hf hlt hc6 hf6 hlt6 hbc
          obtain ⟨hc, hf, hlt⟩ := Blk.all (HH5.at 2 rfl)
          obtain ⟨hc6, hf6, hlt6⟩ := Blk.all (HH5.at 1 rfl)
          have H5 := Lib.hid HH5
          clear HH5 HH
          go_upto_region 16 with fail
          go_cut [96] (fun v wx => v = .bool (f.broken && !fr) ∧ wx = w5)
          case first =>
            cases hbk : f.broken
            · go_wp2
              go_meet
              exact ⟨by simp [hbk], rfl⟩
            · go_wp2
              go_meet
              exact ⟨by simp [hbk], rfl⟩
          case rest =>
            obtain ⟨rfl, rfl⟩ := hcut
            obtain ⟨X1, hX1⟩ : ∃ X1, X1 = (f.broken && !fr) := ⟨_, rfl⟩
            have HX1 := Lib.hid hX1
            rw [← hX1]
            clear hX1
            obtain ⟨L, hL⟩ : ∃ L, L = (f.last + 1) % 65536 := ⟨_, rfl⟩
            have es : IntKind.u16.wrap (f.last + 1) = L := by rw [u16_mod, hL]
            rw [← hL] at HP2
            clear hL
            go_upto_if 96 with fail
            go_cut [96] (fun v wx => v = .bool (X1 || (P.seq != L && !fr)) ∧ ∃ n, wx = wc.drewN n)
            case first =>
              cases X1
              · have hq' : ((P.seq != L) = true) ∨ ((P.seq != L) = false) := by cases (P.seq != L) <;> simp
                rcases hq' with hq | hq
                · clear hok hP hl hn h1
                  go_upto_region 17 with fail
                  go_quiet (fail)
                  go_wp2
                  go_meet
                  exact ⟨by rw [hq]; rfl, _, rfl⟩
                · clear hok hP hl hn h1
                  go_upto_region 17 with fail
                  go_quiet (fail)
                  go_wp2
                  go_meet
                  exact ⟨by rw [hq]; rfl, _, rfl⟩
              · go_wp2
                go_meet
                exact ⟨rfl, 0, rfl⟩
            case rest =>
              obtain ⟨rfl, n7, rfl⟩ := hcut
              have HH6 := H5.out.drewN n7
              clear hc hf hlt hc6 hf6 hlt6 es
              generalize wc.drewN n7 = w6 at HH6 ⊢
              obtain ⟨X2, hX2⟩ : ∃ X2, X2 = (X1 || (P.seq != L && !fr)) := ⟨_, rfl⟩
              rw [← hX2]
              rw [HX1.out] at hX2
              have HX2 := Lib.hid hX2
              clear hX2
              obtain ⟨hc, hf, hlt⟩ := Blk.all (HH6.at 2 rfl)
              have H6 := Lib.hid HH6
              clear HH6 H5
              cases X2
              · go_upto_region 20 with fail
                obtain ⟨f1, hf1⟩ : ∃ f1 : Fl, f1 = { f with broken := false } := ⟨_, rfl⟩
                have H7 : Hid (St J2 (bk (w.heap.size + 1) 38 zeroC :: bk w.heap.size 38 (pkC P (Value.slice A bs.length c)) :: bk p 64 (flC f1) :: M) (w6.setCell ⟨p, 13, none⟩ (.bool false))) := Lib.hid (by rw [hf1]; exact H6.out.set2 13 (.bool false))
                generalize World.setCell w6 _ _ = w7 at H7 ⊢
                clear hc hf hlt H6
                have hok1 : f1.ok := by
                  obtain ⟨a1, a2, a3, a4, a5, a6, a7, a8, a9⟩ := hok
                  rw [hf1]
                  exact ⟨a1, a2, a3, a4, a5, a6, a7, a8, a9⟩
                have H1 := Lib.hid hf1
                clear hf1
                have hs6 : Blk w7 w.heap.size 38 _ := H7.out.at 1 rfl
                go_wp2_with (first | refine wpList_load_row rfl 38 (.tmp 6) rfl w.heap.size rfl 38 _ (0, 0) _ hs6 hd rfl pkI ?_ | fail)
                refine (sendC J2 _ _ p f1 P A c bs b1 now (H7.out.swap2) (HB.out.mono hle2) hl hok1 hP).mono ?_
                rintro e w8 ⟨_, J8, _, rfl, hle8, hst8, A8, c8, rfl, hc8, rfl⟩
                have hs9 : Blk w8 (w.heap.size + 1) 38 zeroC := hst8.at 3 rfl
                have H8 := Lib.hid hst8
                clear hst8 hs6
                go_upto_region 99 with (refine wpList_store_row rfl 38 (.tmp 8) (.tmp _) rfl (w.heap.size + 1) (pkC (outP f1 P) (.slice A8 (payS f1 b1 bs).length c8)) rfl rfl 38 _ hs9 pkI rfl (outOne f1 P _ _ _) ?_)
                refine bodyPost_ret (res11 _ _ (outP f1 P) A8 _ c8 _ _ _ rfl rfl rfl ((H8.out.setR3 _).at 3 rfl)) rfl ?_
                have hb1 : (beginsS f.codec bs).1 = b1 := by rw [HBB.out]
                refine Ret.mk (hle2.trans hle8) (H8.out.setR3 _).swap2.drop.swap2.drop (.inl ⟨f1, by rw [H1.out]; rw [HP2.out, if_neg (by simp), if_neg (ask_no HX2.out)], ?_⟩)
                rw [hb1]
                exact ⟨A8, c8, rfl, hc8, rfl⟩
              · go_upto_region 19 with fail
                have H7 : Hid (St J2 (bk (w.heap.size + 1) 38 zeroC :: bk w.heap.size 38 (pkC P (Value.slice A bs.length c)) :: bk p 64 (flC { f with broken := true }) :: M) (w6.setCell ⟨p, 13, none⟩ (.bool true))) := Lib.hid (H6.out.set2 13 (.bool true))
                generalize World.setCell w6 _ _ = w7 at H7 ⊢
                clear hc hf hlt H6
                have hs8 : Blk w7 (w.heap.size + 1) 38 zeroC := H7.out.at 0 rfl
                go_upto_region 99 with (refine wpList_store_row rfl 38 (.tmp 8) (.tmp _) rfl (w.heap.size + 1) zeroC rfl rfl 38 _ hs8 pkI rfl zeroOne ?_)
                refine bodyPost_ret (res11 _ _ zeroP none 0 0 _ _ _ rfl rfl rfl ((H7.out.setR zeroC).at 0 rfl)) rfl ?_
                exact Ret.mk hle2 (H7.out.setR zeroC).drop.drop (.inr ⟨{ f with broken := true }, true, by rw [HP2.out, if_neg (by simp), if_pos (ask_yes HX2.out)], rfl, rfl⟩)
      · by_cases h3 : layer = f.wanted
        · subst h3
          have HNE := Lib.hid h2
          cases fr
          · go_upto_region 99 with (refine wpList_store_row rfl 38 (.tmp 8) (.tmp _) rfl (w.heap.size + 1) zeroC rfl rfl 38 _ hs8 pkI rfl zeroOne ?_)
            refine bodyPost_ret (res11 _ _ zeroP none 0 0 _ _ _ rfl rfl rfl ((HH.out.setR zeroC).at 0 rfl)) rfl ?_
            exact Ret.mk hle2 (HH.out.setR zeroC).drop.drop (.inr ⟨f, true, by rw [HP.out, if_neg (by have := HNE.out; have := HN1.out; omega), if_pos HNE.out]; rfl, rfl, rfl⟩)
          · go_upto_region 10 with fail
            refine wp_region_held_drew (S := (fun w' => w'.cell? ⟨w.heap.size, 3, none⟩ = some (.int .u32 P.time))) (by kernel_rfl) (by (try dsimp only); first | exact Blk.cell ((HH.out).drew.at 1 rfl) 3 | exact Blk.cell ((HH.out.drew.drewN n5).at 1 rfl) 3 | exact Blk.cell (((HH.out.drew.drewN n5).set2 17 (.int .u32 (IntKind.u32.wrap (timeS f now - P.time)))).at 1 rfl) 3) (fun hHeld => ?_)
            refine wpAnyH_take (i := 0) (oi := _) (v := ?_) rfl (by kernel_rfl) (by kernel_rfl) (by kernel_rfl) (fun _ _ _ h => h) (Or.inl ⟨by rfl, ?_⟩) (by assumption) ?_
            rotate_left
            · (intro w hSw; (try dsimp only at hSw); go_simp; try with_reducible rfl)
            try simp only [Act.put, List.getElem_toArray, List.getElem_cons_zero, List.getElem_cons_succ, List.setIfInBounds_toArray, List.set_cons_zero, List.set_cons_succ]
            refine wpAnyH_take (i := 1) (oi := _) (v := ?_) rfl (by kernel_rfl) (by kernel_rfl) (by kernel_rfl) (fun _ _ _ h => h) (Or.inl ⟨by rfl, ?_⟩) (by assumption) ?_
            rotate_left
            · (intro w hSw; (try dsimp only at hSw); go_simp; try with_reducible rfl)
            try simp only [Act.put, List.getElem_toArray, List.getElem_cons_zero, List.getElem_cons_succ, List.setIfInBounds_toArray, List.set_cons_zero, List.set_cons_succ]
            refine wpAnyH_take (i := 2) (oi := _) (v := ?_) rfl (by kernel_rfl) (by kernel_rfl) (by kernel_rfl) (fun _ _ _ h => h) (Or.inl ⟨by rfl, ?_⟩) (by assumption) ?_
            rotate_left
            · (intro w hSw; (try dsimp only at hSw); go_simp; try with_reducible rfl)
            try simp only [Act.put, List.getElem_toArray, List.getElem_cons_zero, List.getElem_cons_succ, List.setIfInBounds_toArray, List.set_cons_zero, List.set_cons_succ]
            refine wpAnyH_take (i := 4) (oi := _) (v := ?_) rfl (by kernel_rfl) (by kernel_rfl) (by kernel_rfl) (fun _ _ _ h => h) (Or.inl ⟨by rfl, ?_⟩) (by assumption) ?_
            rotate_left
            · (intro w hSw; (try dsimp only at hSw); go_simp; try with_reducible rfl)
            try simp only [Act.put, List.getElem_toArray, List.getElem_cons_zero, List.getElem_cons_succ, List.setIfInBounds_toArray, List.set_cons_zero, List.set_cons_succ]
            refine wpAnyH_take (i := 5) (oi := _) (v := ?_) rfl (by kernel_rfl) (by kernel_rfl) (by kernel_rfl) (fun _ _ _ h => h) (Or.inl ⟨by rfl, ?_⟩) (by assumption) ?_
            rotate_left
            · (intro w hSw; (try dsimp only at hSw); go_simp; try with_reducible rfl)
            try simp only [Act.put, List.getElem_toArray, List.getElem_cons_zero, List.getElem_cons_succ, List.setIfInBounds_toArray, List.set_cons_zero, List.set_cons_succ]
            refine wpAnyH_ready (rs := [3]) (by kernel_rfl) (by simp) ?_
            refine AllReadyH.cons (o := _) rfl (fun K hK => ?_) AllReadyH.nil
            go_simp
            refine (timeC J2 _ _ p f now HH.out.drew.swap2 hok hn).mono ?_; rintro e w5 ⟨rfl, n5, rfl⟩; have HH5 := HH.out.drew.drewN n5; obtain ⟨hc, hf, hlt⟩ := Blk.all (HH5.at 2 rfl)
            try clear hHeld
            refine hK.out _ _ (by (try dsimp only); first | exact Blk.cell ((HH.out).drew.at 1 rfl) 3 | exact Blk.cell ((HH.out.drew.drewN n5).at 1 rfl) 3 | exact Blk.cell (((HH.out.drew.drewN n5).set2 17 (.int .u32 (IntKind.u32.wrap (timeS f now - P.time)))).at 1 rfl) 3) (fun hHeld => ?_)
            clear hK K
            try simp only [Act.put, List.getElem_toArray, List.getElem_cons_zero, List.getElem_cons_succ, List.setIfInBounds_toArray, List.set_cons_zero, List.set_cons_succ]
            refine wpAnyH_take (i := 6) (oi := _) (v := ?_) rfl (by kernel_rfl) (by kernel_rfl) (by kernel_rfl) (fun _ _ _ h => h) (Or.inl ⟨by rfl, ?_⟩) (by assumption) ?_
            rotate_left
            · (intro w hSw; (try dsimp only at hSw); go_simp; try with_reducible rfl)
            try simp only [Act.put, List.getElem_toArray, List.getElem_cons_zero, List.getElem_cons_succ, List.setIfInBounds_toArray, List.set_cons_zero, List.set_cons_succ]
            refine wpAnyH_take (i := 7) (oi := _) (v := ?_) rfl (by kernel_rfl) (by kernel_rfl) (by kernel_rfl) (fun _ _ _ h => h) (Or.inl ⟨by rfl, ?_⟩) (by assumption) ?_
            rotate_left
            · (intro w hSw; (try dsimp only at hSw); go_simp; try with_reducible rfl)
            try simp only [Act.put, List.getElem_toArray, List.getElem_cons_zero, List.getElem_cons_succ, List.setIfInBounds_toArray, List.set_cons_zero, List.set_cons_succ]
            refine wpAnyH_take (i := 8) (oi := _) (v := ?_) rfl (by kernel_rfl) (by kernel_rfl) (by kernel_rfl) (fun _ _ _ h => h) (Or.inl ⟨by rfl, ?_⟩) (by assumption) ?_
            rotate_left
            · (intro w hSw; (try dsimp only at hSw); go_simp; try with_reducible rfl)
            try simp only [Act.put, List.getElem_toArray, List.getElem_cons_zero, List.getElem_cons_succ, List.setIfInBounds_toArray, List.set_cons_zero, List.set_cons_succ]
            refine wpAnyH_ready (rs := [9]) (by kernel_rfl) (by simp) ?_
            refine AllReadyH.cons (o := _) rfl (fun K hK => ?_) AllReadyH.nil
            go_simp
            try clear hHeld
            refine hK.out _ _ (by (try dsimp only); first | exact Blk.cell ((HH.out).drew.at 1 rfl) 3 | exact Blk.cell ((HH.out.drew.drewN n5).at 1 rfl) 3 | exact Blk.cell (((HH.out.drew.drewN n5).set2 17 (.int .u32 (IntKind.u32.wrap (timeS f now - P.time)))).at 1 rfl) 3) (fun hHeld => ?_)
            clear hK K
            try simp only [Act.put, List.getElem_toArray, List.getElem_cons_zero, List.getElem_cons_succ, List.setIfInBounds_toArray, List.set_cons_zero, List.set_cons_succ]
            refine wpAnyH_done (by kernel_rfl) ?_ _
            have HH6 := (HH.out.drewN (1 + n5)).set2 17 (.int .u32 (IntKind.u32.wrap (timeS f now - P.time)))
            rw [u32_mod] at HH6 ⊢
            generalize World.setCell (World.drewN _ _) _ _ = w6 at HH6 ⊢
            clear hc hf hlt hc6 hf6 hlt6 hs8 HH5 HH hHeld
            obtain ⟨hc, hf, hlt⟩ := Blk.all (HH6.at 2 rfl)
            have H6 := Lib.hid HH6
            clear HH6
            go_upto_region 20 with fail
            obtain ⟨f1, hf1⟩ : ∃ f1 : Fl, f1 = { f with offset := (timeS f now - P.time) % 4294967296, layer := f.wanted, broken := false } := ⟨_, rfl⟩
            have H7 : Hid (St J2 (bk (w.heap.size + 1) 38 zeroC :: bk w.heap.size 38 (pkC P (Value.slice A bs.length c)) :: bk p 64 (flC f1) :: M) ((w6.setCell ⟨p, 12, none⟩ (.int .i64 f.wanted)).setCell ⟨p, 13, none⟩ (.bool false))) := Lib.hid (by rw [hf1]; exact (H6.out.set2 12 (.int .i64 f.wanted)).set2 13 (.bool false))
            generalize World.setCell (World.setCell w6 _ _) _ _ = w7 at H7 ⊢
            clear hc hf hlt H6
            have hok1 : f1.ok := by
              obtain ⟨a1, a2, a3, a4, a5, a6, a7, a8, a9⟩ := hok
              rw [hf1]
              exact ⟨a1, a2, a3, a4, by show -1 ≤ f.wanted ∧ f.wanted ≤ 9223372036854775807; omega, a6, a7, by show 0 ≤ (timeS f now - P.time) % 4294967296 ∧ (timeS f now - P.time) % 4294967296 ≤ 4294967295; omega, a9⟩
            have H1 := Lib.hid hf1
            clear hf1
            have hs6 : Blk w7 w.heap.size 38 _ := H7.out.at 1 rfl
            go_wp2_with (first | refine wpList_load_row rfl 38 (.tmp 6) rfl w.heap.size rfl 38 _ (0, 0) _ hs6 hd rfl pkI ?_ | fail)
            refine (sendC J2 _ _ p f1 P A c bs b1 now (H7.out.swap2) (HB.out.mono hle2) hl hok1 hP).mono ?_
            rintro e w8 ⟨_, J8, _, rfl, hle8, hst8, A8, c8, rfl, hc8, rfl⟩
            have hs9 : Blk w8 (w.heap.size + 1) 38 zeroC := hst8.at 3 rfl
            have H8 := Lib.hid hst8
            clear hst8 hs6
            go_upto_region 99 with (refine wpList_store_row rfl 38 (.tmp 8) (.tmp _) rfl (w.heap.size + 1) (pkC (outP f1 P) (.slice A8 (payS f1 b1 bs).length c8)) rfl rfl 38 _ hs9 pkI rfl (outOne f1 P _ _ _) ?_)
            refine bodyPost_ret (res11 _ _ (outP f1 P) A8 _ c8 _ _ _ rfl rfl rfl ((H8.out.setR3 _).at 3 rfl)) rfl ?_
            have hb1 : (beginsS f.codec bs).1 = b1 := by rw [HBB.out]
            refine Ret.mk (hle2.trans hle8) (H8.out.setR3 _).swap2.drop.swap2.drop (.inl ⟨f1, by rw [H1.out]; rw [HP.out, if_neg (by have := HNE.out; have := HN1.out; omega), if_pos HNE.out]; rfl, ?_⟩)
            rw [hb1]
            exact ⟨A8, c8, rfl, hc8, rfl⟩
        · have h2' : (layer != f.layer) = true := by simpa using h2
          have h3' : (layer != f.wanted) = true := by simpa using h3
          have HNE := Lib.hid (And.intro h2 h3)
          clear h2 h3
          go_upto_region 99 with (refine wpList_store_row rfl 38 (.tmp 8) (.tmp _) rfl (w.heap.size + 1) zeroC rfl rfl 38 _ hs8 pkI rfl zeroOne ?_)
          refine bodyPost_ret (res11 _ _ zeroP none 0 0 _ _ _ rfl rfl rfl ((HH.out.setR zeroC).at 0 rfl)) rfl ?_
          exact Ret.mk hle2 (HH.out.setR zeroC).drop.drop (.inr ⟨f, false, by rw [HP.out, if_pos (.inr HNE.out)], rfl, rfl⟩)
end Go.Proofs.Ytaemohkmingnpaa
