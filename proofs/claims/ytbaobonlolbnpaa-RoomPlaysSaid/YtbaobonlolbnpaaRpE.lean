/- rostrumref23.House: Unsubscribe. -/
import Derived.Test.YtbaobonlolbnpaaRpD
namespace Go.Proofs.Ytbaobonlolbnpaa
open Go.RowKit
set_option linter.unusedSimpArgs false

theorem flat_drop {α : Type} {f : α → List Value} {s : Nat} (hs : ∀ x, (f x).length = s) : ∀ (l : List α) (i : Nat), flat f (l.drop i) = (flat f l).drop (i * s)
  | [], i => by simp [flat]
  | x :: r, 0 => by simp
  | x :: r, i + 1 => by
    have ih := flat_drop hs r i
    have hx := hs x
    rw [List.drop_succ_cons, ih, flat, Nat.add_mul, Nat.one_mul, Nat.add_comm, ← List.drop_drop, List.drop_left' hx]
theorem flat_take {α : Type} {f : α → List Value} {s : Nat} (hs : ∀ x, (f x).length = s) : ∀ (l : List α) (i : Nat), flat f (l.take i) = (flat f l).take (i * s)
  | [], i => by simp [flat]
  | x :: r, 0 => by simp [flat]
  | x :: r, i + 1 => by
    have ih := flat_take hs r i
    have hx := hs x
    rw [List.take_succ_cons, flat, ih, flat, Nat.add_mul, Nat.one_mul, Nat.add_comm, List.take_add, List.take_left' hx, List.drop_left' hx]
theorem own_src {α : Type} {P : Program} {w : World} {f : α → List Value} {e s n' c g t e' : Nat} {l : List α} (hs : ∀ x, (f x).length = s) (hone : ∀ x, ∀ u ∈ f x, u.oneCell' = true) (ho : w.ownsRow 0 e s (.slice (some ⟨g, 0, none⟩) n' c) l.length (flat f l)) (ht : P.underlying t = some (.slice e')) (i j c2 : Nat) (hij : i ≤ j) (hj : j ≤ l.length) :
    Src P s t (.slice (some ⟨g, i * s, none⟩) (j - i) c2) (j - i) (flat f ((l.take j).drop i)) w := by
  have hone2 : ∀ (l : List α), ∀ u ∈ flat f l, u.oneCell' = true := by
    intro l
    induction l with
    | nil => intro u hu; cases hu
    | cons x r ih =>
      intro u hu
      rw [flat, List.mem_append] at hu
      exact hu.elim (hone x u) (ih u)
  refine Src.ofSlice w ht _ _ c2 _ (by rw [flat_len hs, List.length_drop, List.length_take]; congr 1; omega) (fun q u hq => ?_) (hone2 _)
  rw [add_at]
  have hc := ho.cells (g := g) rfl (i * s + q) u (by
    rw [flat_drop hs, flat_take hs, List.getElem?_drop] at hq
    rw [List.getElem?_take] at hq
    split at hq
    · exact hq
    · cases hq)
  rw [add_at, Nat.zero_add] at hc
  exact hc
theorem own_src2 {α : Type} {P : Program} {w : World} {f : α → List Value} {e s n' c g t e' : Nat} {l : List α} (hs : ∀ x, (f x).length = s) (hone : ∀ x, ∀ u ∈ f x, u.oneCell' = true) (ho : w.ownsRow 0 e s (.slice (some ⟨g, 0, none⟩) n' c) l.length (flat f l)) (ht : P.underlying t = some (.slice e')) (i c2 : Nat) (hi : i ≤ l.length) {A2 : Addr} (hA : A2 = if c = i then ⟨g, 0, none⟩ else ⟨g, i * s, none⟩) :
    Src P s t (.slice (some A2) (l.length - i) c2) (l.length - i) (flat f (l.drop i)) w := by
  have hc := (own_cap ho).2
  by_cases h : c = i
  · rw [if_pos h] at hA
    have h2 : l.length = i := by omega
    subst hA
    rw [show l.length - i = 0 by omega, List.drop_of_length_le (by omega)]
    exact Src.ofSlice w ht _ _ c2 [] (by simp) (fun q u hq => by simp at hq) (fun u hu => by cases hu)
  · rw [if_neg h] at hA
    subst hA
    have := own_src hs hone ho ht i l.length c2 hi (Nat.le_refl _)
    rw [List.take_length] at this
    exact this
theorem St.lit0S {I : Img} {M : List Res} {w w2 : World} {e s : Nat} (h : St I M w) (he : w.alloc (.cells #[] e) = w2) : St I (row e s (.slice (some ⟨w.heap.size, 0, none⟩) 0 0) 0 [] :: M) w2 := by
  subst he
  refine St.fresh h (h.grow _) ⟨by simp, .inr ⟨w.heap.size, 0, #[], rfl, Nat.le_refl _, heap_alloc_new w _, Nat.le_refl _, Nat.zero_le _, by simp, by simp⟩⟩
theorem cut_out {α : Type} {p : α → Bool} : ∀ (l : List α) (i : Nat) (hi : i < l.length), p l[i] = true → (∀ j (hj : j < l.length), j < i → p l[j] = false) → (l.filter p).length ≤ 1 → l.take i ++ l.drop (i + 1) = l.filter (fun x => !p x)
  | x :: r, 0, _, h, _, h1 => by
    simp only [List.getElem_cons_zero] at h
    rw [List.filter_cons, if_pos h] at h1
    have h2 : r.filter p = [] := List.eq_nil_of_length_eq_zero (by simpa using h1)
    have h3 : r.filter (fun x => !p x) = r := List.filter_eq_self.2 (fun y hy => by
      have := List.filter_eq_nil_iff.1 h2 y hy
      simpa using this)
    simp [List.filter_cons, h, h3]
  | x :: r, i + 1, hi, h, hno, h1 => by
    have h0 := hno 0 (by simp) (by omega)
    simp only [List.getElem_cons_zero] at h0
    have h1' : (r.filter p).length ≤ 1 := by
      rw [List.filter_cons, if_neg (by rw [h0]; simp)] at h1
      exact h1
    have ih := cut_out r i (by simpa using hi) (by simpa using h) (fun j hj hji => hno (j + 1) (Nat.succ_lt_succ hj) (by omega)) h1'
    simp [List.filter_cons, h0, ← ih]
theorem sb_one : ∀ x : Sb, ∀ u ∈ sbC x, u.oneCell' = true := fun x u hu => by simp at hu; rcases hu with rfl | rfl | rfl <;> rfl
set_option maxRecDepth 8000 in
set_option maxHeartbeats 8000000 in
theorem unsubR (I : Img) (M : List Res) (w : World) (p : Nat) (h : Ho) (vM vT vS : Value) (id track : Int) (hst : St I (houR p h vM vT vS M) w) (hls : h.ss.length ≤ 1000000) (hun : (h.ss.filter (fun s => s.member == id && s.track == track)).length ≤ 1) :
    Calls Try.prog 33 #[.pointer (some ⟨p, 0, none⟩), .int .i64 id, .int .i64 track] w (Ret I (fun v J M' => I = J ∧ HR p M (unsubS h id track) v M')) := by
  obtain ⟨B, cb, rfl⟩ := own_form (show World.ownsRow _ 0 88 3 vS _ _ from hst.at 2 rfl)
  obtain ⟨hcP, hfP, hlP⟩ := Blk.all (hst.at 3 rfl)
  have H2 := Lib.hid hst
  clear hst
  go_enter Try.func33, Try.ntmps33
  go_upto_region 2 with fail
  go_loopw [13] (fun iv wr => ∃ (k : Nat), k ≤ h.ss.length ∧ iv = .int .i64 k ∧ wr = w ∧ Hid (∀ j (hj : j < h.ss.length), j < k → (h.ss[j].member == id && h.ss[j].track == track) = false)) (fun iv _ => h.ss.length - (intOf iv).toNat)
  case atStart => exact ⟨0, by omega, rfl, rfl, fun j hj h => by omega⟩
  case round =>
    obtain ⟨k, hk, rfl, hwr, hh⟩ := hrel
    subst wr
    by_cases hlt : k < h.ss.length
    · obtain ⟨g5, rfl, _, hcc, hg, hcell, hfr⟩ := flat_cell (f := sbC) (s := 3) (fun _ => rfl) H2.out.swap2 (by omega) (by decide)
      have z0 := hcell k hlt 0 (by decide)
      have z1 := hcell k hlt 1 (by decide)
      rw [Nat.add_zero] at z0
      obtain ⟨x, hx⟩ : ∃ x, x = h.ss[k] := ⟨_, rfl⟩
      rw [← hx] at z0 z1
      simp only [sbC, List.getElem?_cons_succ, List.getElem?_cons_zero] at z0 z1
      have HX := Lib.hid hx
      clear hcell hfr hx
      cases h1 : (x.member == id)
      · have HH2 := Lib.hid (show ∀ j (hj : j < h.ss.length), j < k + 1 → (h.ss[j].member == id && h.ss[j].track == track) = false from fun j hj h2 => by
          by_cases e : j = k
          · subst e; rw [← HX.out, h1]; rfl
          · exact hh.out j hj (by omega))
        clear hh
        go_wp2
        go_roundw
        case rel => exact ⟨k + 1, by omega, by go_num, trivial, HH2.out⟩
        case measure => simp [intOf]; omega
      · cases h2 : (x.track == track)
        · have HH2 := Lib.hid (show ∀ j (hj : j < h.ss.length), j < k + 1 → (h.ss[j].member == id && h.ss[j].track == track) = false from fun j hj h3 => by
            by_cases e : j = k
            · subst e; rw [← HX.out, h1, h2]; rfl
            · exact hh.out j hj (by omega))
          clear hh
          go_wp2
          go_roundw
          case rel => exact ⟨k + 1, by omega, by go_num, trivial, HH2.out⟩
          case measure => simp [intOf]; omega
        · have hpk : (h.ss[k].member == id && h.ss[k].track == track) = true := by rw [← HX.out, h1, h2]; rfl
          have hcut := cut_out (p := fun s => s.member == id && s.track == track) h.ss k hlt hpk hh.out hun
          have hlen : (h.ss.filter (fun s => !(s.member == id && s.track == track))).length = h.ss.length - 1 := by
            rw [← hcut, List.length_append, List.length_take, List.length_drop]; omega
          have hE : unsubS h id track = ({ h with ss := h.ss.take k ++ h.ss.drop (k + 1) }, 0) := by
            unfold unsubS
            rw [if_neg (by rw [hlen]; omega), hcut]
          have HE := Lib.hid hE
          have hs := H2.out.drew
          clear hpk hcut hlen hE hh HX H2
          obtain ⟨i3, hi, hz0, hz1, hz2⟩ := info_parts info88
          go_upto_region 5 with fail
          clear h1 h2 z0 z1 hcP hfP hlP hg
          obtain ⟨A2, hA2⟩ : ∃ A2 : Addr, A2 = if cb = k + 1 then ⟨g5, 0, none⟩ else ⟨g5, (k + 1) * 3, none⟩ := ⟨_, rfl⟩
          have HA2 := Lib.hid (show (if cb = k + 1 then some (⟨g5, 0, none⟩ : Addr) else some ⟨g5, (k + 1) * 3, none⟩) = some A2 by rw [hA2]; split <;> rfl)
          have HA3 := Lib.hid hA2
          have HW := Lib.hid (show IntKind.i64.wrap ((k : Int) + 1) = ((k + 1 : Nat) : Int) by rw [IntKind.wrap_i64]; omega)
          clear hA2
          refine wp_region_held_drew (S := (fun _ => True)) (by kernel_rfl) (by (try dsimp only); all_goals trivial) (fun hHeld => ?_)
          generalize World.drew _ = W at hs hHeld ⊢
          refine wpAnyH_take (i := 0) (oi := _) (v := ?_) rfl (by kernel_rfl) (by kernel_rfl) (by kernel_rfl) (fun _ _ _ h => h) (Or.inl ⟨by rfl, ?_⟩) (by assumption) ?_
          rotate_left
          · (intro w hSw; (try dsimp only at hSw); go_simp; try with_reducible rfl)
          try simp only [Act.put, List.getElem_toArray, List.getElem_cons_zero, List.getElem_cons_succ, List.setIfInBounds_toArray, List.set_cons_zero, List.set_cons_succ]
          refine wpAnyH_take (i := 2) (oi := _) (v := ?_) rfl (by kernel_rfl) (by kernel_rfl) (by kernel_rfl) (fun _ _ _ h => h) (Or.inl ⟨by rfl, ?_⟩) (by assumption) ?_
          rotate_left
          · (intro w hSw; (try dsimp only at hSw); go_simp; try with_reducible rfl)
          try simp only [Act.put, List.getElem_toArray, List.getElem_cons_zero, List.getElem_cons_succ, List.setIfInBounds_toArray, List.set_cons_zero, List.set_cons_succ]
          refine wpAnyH_take (i := 3) (oi := _) (v := ?_) rfl (by kernel_rfl) (by kernel_rfl) (by kernel_rfl) (fun _ _ _ h => h) (Or.inl ⟨by rfl, ?_⟩) (by assumption) ?_
          rotate_left
          · (intro w hSw; (try dsimp only at hSw); go_simp; try with_reducible rfl)
          try simp only [Act.put, List.getElem_toArray, List.getElem_cons_zero, List.getElem_cons_succ, List.setIfInBounds_toArray, List.set_cons_zero, List.set_cons_succ]
          refine wpAnyH_take (i := 4) (oi := _) (v := ?_) rfl (by kernel_rfl) (by kernel_rfl) (by kernel_rfl) (fun _ _ _ h => h) (Or.inl ⟨by rfl, ?_⟩) (by assumption) ?_
          rotate_left
          · (intro w hSw; (try dsimp only at hSw); go_simp; try with_reducible rfl)
          try simp only [Act.put, List.getElem_toArray, List.getElem_cons_zero, List.getElem_cons_succ, List.setIfInBounds_toArray, List.set_cons_zero, List.set_cons_succ]
          refine wpAnyH_take (i := 6) (oi := _) (v := ?_) rfl (by kernel_rfl) (by kernel_rfl) (by kernel_rfl) (fun _ _ _ h => h) (Or.inl ⟨by rfl, ?_⟩) (by assumption) ?_
          rotate_left
          · (intro w hSw; (try dsimp only at hSw); go_simp; try with_reducible rfl)
          try simp only [Act.put, List.getElem_toArray, List.getElem_cons_zero, List.getElem_cons_succ, List.setIfInBounds_toArray, List.set_cons_zero, List.set_cons_succ]
          refine wpAnyH_take (i := 9) (oi := _) (v := ?_) rfl (by kernel_rfl) (by kernel_rfl) (by kernel_rfl) (fun _ _ _ h => h) (Or.inl ⟨by rfl, ?_⟩) (by assumption) ?_
          rotate_left
          · (intro w hSw; (try dsimp only at hSw); go_simp; try with_reducible rfl)
          try simp only [Act.put, List.getElem_toArray, List.getElem_cons_zero, List.getElem_cons_succ, List.setIfInBounds_toArray, List.set_cons_zero, List.set_cons_succ]
          refine wpAnyH_take (i := 10) (oi := _) (v := ?_) rfl (by kernel_rfl) (by kernel_rfl) (by kernel_rfl) (fun _ _ _ h => h) (Or.inl ⟨by rfl, ?_⟩) (by assumption) ?_
          rotate_left
          · (intro w hSw; (try dsimp only at hSw); go_simp; try with_reducible rfl)
          try simp only [Act.put, List.getElem_toArray, List.getElem_cons_zero, List.getElem_cons_succ, List.setIfInBounds_toArray, List.set_cons_zero, List.set_cons_succ]
          refine wpAnyH_take (i := 11) (oi := _) (v := ?_) rfl (by kernel_rfl) (by kernel_rfl) (by kernel_rfl) (fun _ _ _ h => h) (Or.inl ⟨by rfl, ?_⟩) (by assumption) ?_
          rotate_left
          · (intro w hSw; (try dsimp only at hSw); go_simp; try with_reducible rfl)
          try simp only [Act.put, List.getElem_toArray, List.getElem_cons_zero, List.getElem_cons_succ, List.setIfInBounds_toArray, List.set_cons_zero, List.set_cons_succ]
          refine wpAnyH_take (i := 13) (oi := _) (v := ?_) rfl (by kernel_rfl) (by kernel_rfl) (by kernel_rfl) (fun _ _ _ h => h) (Or.inl ⟨by rfl, ?_⟩) (by assumption) ?_
          rotate_left
          · (intro w hSw; (try dsimp only at hSw); go_simp; try with_reducible rfl)
          try simp only [Act.put, List.getElem_toArray, List.getElem_cons_zero, List.getElem_cons_succ, List.setIfInBounds_toArray, List.set_cons_zero, List.set_cons_succ]
          refine wpAnyH_take (i := 14) (oi := _) (v := ?_) rfl (by kernel_rfl) (by kernel_rfl) (by kernel_rfl) (fun _ _ _ h => h) (Or.inl ⟨by rfl, ?_⟩) (by assumption) ?_
          rotate_left
          · (intro w hSw; (try dsimp only at hSw); go_simp; try with_reducible rfl)
          try simp only [Act.put, List.getElem_toArray, List.getElem_cons_zero, List.getElem_cons_succ, List.setIfInBounds_toArray, List.set_cons_zero, List.set_cons_succ]
          refine wpAnyH_ready (rs := [1, 5, 12]) (by kernel_rfl) (by simp) ?_
          refine (AllReadyH.cons (o := _) rfl (fun K hK => ?_) (AllReadyH.cons (o := _) rfl (fun K hK => ?_) (AllReadyH.cons (o := _) rfl (fun K hK => ?_) AllReadyH.nil)))
          · skip
            go_simp
            try clear hHeld
            refine hK.out _ _ (by (try dsimp only); all_goals trivial) (fun hHeld => ?_)
            clear hK K
            try simp only [Act.put, List.getElem_toArray, List.getElem_cons_zero, List.getElem_cons_succ, List.setIfInBounds_toArray, List.set_cons_zero, List.set_cons_succ]
            generalize hw : World.alloc W _ = W at hHeld ⊢
            replace hs := hs.lit0S (s := 3) hw
            clear hw
            refine wpAnyH_ready (rs := [5, 12]) (by kernel_rfl) (by simp) ?_
            refine (AllReadyH.cons (o := _) rfl (fun K hK => ?_) (AllReadyH.cons (o := _) rfl (fun K hK => ?_) AllReadyH.nil))
            · skip
              have hcQ : W.cell? ⟨p, 2, none⟩ = some (.slice (some ⟨g5, 0, none⟩) h.ss.length cb) := by first | exact Blk.cell (hs.at 3 rfl) 2 | exact Blk.cell (hs.at 4 rfl) 2
              go_simp
              try clear hHeld
              refine hK.out _ _ (by (try dsimp only); all_goals trivial) (fun hHeld => ?_)
              clear hK K
              try simp only [Act.put, List.getElem_toArray, List.getElem_cons_zero, List.getElem_cons_succ, List.setIfInBounds_toArray, List.set_cons_zero, List.set_cons_succ]
              clear hcQ
              refine wpAnyH_take (i := 7) (oi := _) (v := ?_) rfl (by kernel_rfl) (by kernel_rfl) (by kernel_rfl) (fun _ _ _ h => h) (Or.inl ⟨by rfl, ?_⟩) (by assumption) ?_
              rotate_left
              · (intro w hSw; (try dsimp only at hSw); go_simp; rw [if_pos (by omega)])
              try simp only [Act.put, List.getElem_toArray, List.getElem_cons_zero, List.getElem_cons_succ, List.setIfInBounds_toArray, List.set_cons_zero, List.set_cons_succ]
              refine wpAnyH_ready (rs := [8, 12]) (by kernel_rfl) (by simp) ?_
              refine (AllReadyH.cons (o := _) rfl (fun K hK => ?_) (AllReadyH.cons (o := _) rfl (fun K hK => ?_) AllReadyH.nil))
              · skip
                refine step_append_src _ (by rfl) _ _ 56 56 (by rfl) 0 88 i3 (.agg #[.int .i64 0, .int .i64 0, .int .i64 0]) 3 24 Try.underlying56 hi hz0 hz1 hz2 rfl _ 0 [] (by rfl) hs.head _ k _ (by rfl) (own_src (f := sbC) (fun _ => rfl) sb_one (hs.at 3 rfl) Try.underlying56 0 k _ (by omega) (by omega)) (by unfold maxLen; omega) (by omega) (Nat.zero_le _) ?_
                intro v' W hown' hgrow hat
                have hown2 : W.ownsRow 0 88 3 v' k (flat sbC (h.ss.take k)) := by simpa using hown'
                obtain ⟨A10, c10, rfl⟩ := own_form hown2
                replace hs := hs.grown hgrow hown2 hat
                clear hown' hown2 hgrow hat
                try clear hHeld
                refine hK.out _ _ (by (try dsimp only); all_goals trivial) (fun hHeld => ?_)
                clear hK K
                try simp only [Act.put, List.getElem_toArray, List.getElem_cons_zero, List.getElem_cons_succ, List.setIfInBounds_toArray, List.set_cons_zero, List.set_cons_succ]
                refine wpAnyH_ready (rs := [12]) (by kernel_rfl) (by simp) ?_
                refine (AllReadyH.cons (o := _) rfl (fun K hK => ?_) AllReadyH.nil)
                have hcQ : W.cell? ⟨p, 2, none⟩ = some (.slice (some ⟨g5, 0, none⟩) h.ss.length cb) := by first | exact Blk.cell (hs.at 3 rfl) 2 | exact Blk.cell (hs.at 4 rfl) 2
                go_simp
                try clear hHeld
                refine hK.out _ _ (by (try dsimp only); all_goals trivial) (fun hHeld => ?_)
                clear hK K
                try simp only [Act.put, List.getElem_toArray, List.getElem_cons_zero, List.getElem_cons_succ, List.setIfInBounds_toArray, List.set_cons_zero, List.set_cons_succ]
                clear hcQ
                refine wpAnyH_take (i := 15) (oi := _) (v := ?_) rfl (by kernel_rfl) (by kernel_rfl) (by kernel_rfl) (fun _ _ _ h => h) (Or.inl ⟨by rfl, ?_⟩) (by assumption) ?_
                rotate_left
                · (intro w hSw; (try dsimp only at hSw); go_simp; rw [HW.out, if_pos ⟨by omega, by omega⟩, Int.toNat_natCast, HA2.out])
                try simp only [Act.put, List.getElem_toArray, List.getElem_cons_zero, List.getElem_cons_succ, List.setIfInBounds_toArray, List.set_cons_zero, List.set_cons_succ]
                refine wpAnyH_ready (rs := [16]) (by kernel_rfl) (by simp) ?_
                refine (AllReadyH.cons (o := _) rfl (fun K hK => ?_) AllReadyH.nil)
                refine step_append_src _ (by rfl) _ _ 56 56 (by rfl) 0 88 i3 (.agg #[.int .i64 0, .int .i64 0, .int .i64 0]) 3 24 Try.underlying56 hi hz0 hz1 hz2 rfl _ k (flat sbC (h.ss.take k)) (by rfl) hs.head _ (h.ss.length - (k + 1)) _ (by rfl) (own_src2 (f := sbC) (fun _ => rfl) sb_one (hs.at 3 rfl) Try.underlying56 (k + 1) _ (by omega) HA3.out) (by unfold maxLen; omega) (by omega) (Nat.zero_le _) ?_
                intro v' W hown' hgrow hat
                have hown2 : W.ownsRow 0 88 3 v' (h.ss.take k ++ h.ss.drop (k + 1)).length (flat sbC (h.ss.take k ++ h.ss.drop (k + 1))) := by rw [flat_append]; rw [show (h.ss.take k ++ h.ss.drop (k + 1)).length = k + (h.ss.length - (k + 1)) by rw [List.length_append, List.length_take, List.length_drop]; omega]; exact hown'
                obtain ⟨A11, c11, rfl⟩ := own_form hown2
                obtain ⟨n11, hn11⟩ : ∃ n11, n11 = (h.ss.take k ++ h.ss.drop (k + 1)).length := ⟨_, rfl⟩
                replace hs := hs.grown hgrow hown2 hat
                rw [← hn11] at hs ⊢
                have HN11 := Lib.hid hn11
                clear hown' hown2 hgrow hat hn11
                try clear hHeld
                refine hK.out _ _ (by (try dsimp only); all_goals trivial) (fun hHeld => ?_)
                clear hK K
                try simp only [Act.put, List.getElem_toArray, List.getElem_cons_zero, List.getElem_cons_succ, List.setIfInBounds_toArray, List.set_cons_zero, List.set_cons_succ]
                refine wpAnyH_take (i := 17) (oi := _) (v := ?_) rfl (by kernel_rfl) (by kernel_rfl) (by kernel_rfl) (fun _ _ _ h => h) (Or.inl ⟨by rfl, ?_⟩) (by assumption) ?_
                rotate_left
                · (intro w hSw; (try dsimp only at hSw); go_simp; try with_reducible rfl)
                try simp only [Act.put, List.getElem_toArray, List.getElem_cons_zero, List.getElem_cons_succ, List.setIfInBounds_toArray, List.set_cons_zero, List.set_cons_succ]
                refine wpAnyH_take (i := 18) (oi := _) (v := ?_) rfl (by kernel_rfl) (by kernel_rfl) (by kernel_rfl) (fun _ _ _ h => h) (Or.inl ⟨by rfl, ?_⟩) (by assumption) ?_
                rotate_left
                · (intro w hSw; (try dsimp only at hSw); go_simp; try with_reducible rfl)
                try simp only [Act.put, List.getElem_toArray, List.getElem_cons_zero, List.getElem_cons_succ, List.setIfInBounds_toArray, List.set_cons_zero, List.set_cons_succ]
                refine wpAnyH_ready (rs := [19]) (by kernel_rfl) (by simp) ?_
                refine (AllReadyH.cons (o := _) rfl (fun K hK => ?_) AllReadyH.nil)
                obtain ⟨hcQ, hfQ, hlQ⟩ := Blk.all (show Blk W p 71 _ from hs.at 4 rfl)
                go_simp
                replace hs := hs.set4 2 (.slice A11 n11 c11)
                try clear hHeld
                refine hK.out _ _ (by (try dsimp only); all_goals trivial) (fun hHeld => ?_)
                clear hK K
                try simp only [Act.put, List.getElem_toArray, List.getElem_cons_zero, List.getElem_cons_succ, List.setIfInBounds_toArray, List.set_cons_zero, List.set_cons_succ]
                clear hcQ hfQ hlQ
                refine wpAnyH_done (by kernel_rfl) ?_ _
                generalize World.setCell _ _ _ = W at hs ⊢
                replace hs := hs.swap3.drop
                have HS := Lib.hid hs
                clear hs
                go_wp2
                go_returns
                refine Ret.mk (.refl I) HS.out ⟨rfl, ⟨by rw [HE.out]; rfl, _, _, _, by rw [HE.out]; unfold houR; dsimp only; rw [← HN11.out]; rfl⟩⟩
              · skip
                have hcQ : W.cell? ⟨p, 2, none⟩ = some (.slice (some ⟨g5, 0, none⟩) h.ss.length cb) := by first | exact Blk.cell (hs.at 3 rfl) 2 | exact Blk.cell (hs.at 4 rfl) 2
                go_simp
                try clear hHeld
                refine hK.out _ _ (by (try dsimp only); all_goals trivial) (fun hHeld => ?_)
                clear hK K
                try simp only [Act.put, List.getElem_toArray, List.getElem_cons_zero, List.getElem_cons_succ, List.setIfInBounds_toArray, List.set_cons_zero, List.set_cons_succ]
                clear hcQ
                refine wpAnyH_take (i := 15) (oi := _) (v := ?_) rfl (by kernel_rfl) (by kernel_rfl) (by kernel_rfl) (fun _ _ _ h => h) (Or.inl ⟨by rfl, ?_⟩) (by assumption) ?_
                rotate_left
                · (intro w hSw; (try dsimp only at hSw); go_simp; rw [HW.out, if_pos ⟨by omega, by omega⟩, Int.toNat_natCast, HA2.out])
                try simp only [Act.put, List.getElem_toArray, List.getElem_cons_zero, List.getElem_cons_succ, List.setIfInBounds_toArray, List.set_cons_zero, List.set_cons_succ]
                refine wpAnyH_ready (rs := [8]) (by kernel_rfl) (by simp) ?_
                refine (AllReadyH.cons (o := _) rfl (fun K hK => ?_) AllReadyH.nil)
                refine step_append_src _ (by rfl) _ _ 56 56 (by rfl) 0 88 i3 (.agg #[.int .i64 0, .int .i64 0, .int .i64 0]) 3 24 Try.underlying56 hi hz0 hz1 hz2 rfl _ 0 [] (by rfl) hs.head _ k _ (by rfl) (own_src (f := sbC) (fun _ => rfl) sb_one (hs.at 3 rfl) Try.underlying56 0 k _ (by omega) (by omega)) (by unfold maxLen; omega) (by omega) (Nat.zero_le _) ?_
                intro v' W hown' hgrow hat
                have hown2 : W.ownsRow 0 88 3 v' k (flat sbC (h.ss.take k)) := by simpa using hown'
                obtain ⟨A10, c10, rfl⟩ := own_form hown2
                replace hs := hs.grown hgrow hown2 hat
                clear hown' hown2 hgrow hat
                try clear hHeld
                refine hK.out _ _ (by (try dsimp only); all_goals trivial) (fun hHeld => ?_)
                clear hK K
                try simp only [Act.put, List.getElem_toArray, List.getElem_cons_zero, List.getElem_cons_succ, List.setIfInBounds_toArray, List.set_cons_zero, List.set_cons_succ]
                refine wpAnyH_ready (rs := [16]) (by kernel_rfl) (by simp) ?_
                refine (AllReadyH.cons (o := _) rfl (fun K hK => ?_) AllReadyH.nil)
                refine step_append_src _ (by rfl) _ _ 56 56 (by rfl) 0 88 i3 (.agg #[.int .i64 0, .int .i64 0, .int .i64 0]) 3 24 Try.underlying56 hi hz0 hz1 hz2 rfl _ k (flat sbC (h.ss.take k)) (by rfl) hs.head _ (h.ss.length - (k + 1)) _ (by rfl) (own_src2 (f := sbC) (fun _ => rfl) sb_one (hs.at 3 rfl) Try.underlying56 (k + 1) _ (by omega) HA3.out) (by unfold maxLen; omega) (by omega) (Nat.zero_le _) ?_
                intro v' W hown' hgrow hat
                have hown2 : W.ownsRow 0 88 3 v' (h.ss.take k ++ h.ss.drop (k + 1)).length (flat sbC (h.ss.take k ++ h.ss.drop (k + 1))) := by rw [flat_append]; rw [show (h.ss.take k ++ h.ss.drop (k + 1)).length = k + (h.ss.length - (k + 1)) by rw [List.length_append, List.length_take, List.length_drop]; omega]; exact hown'
                obtain ⟨A11, c11, rfl⟩ := own_form hown2
                obtain ⟨n11, hn11⟩ : ∃ n11, n11 = (h.ss.take k ++ h.ss.drop (k + 1)).length := ⟨_, rfl⟩
                replace hs := hs.grown hgrow hown2 hat
                rw [← hn11] at hs ⊢
                have HN11 := Lib.hid hn11
                clear hown' hown2 hgrow hat hn11
                try clear hHeld
                refine hK.out _ _ (by (try dsimp only); all_goals trivial) (fun hHeld => ?_)
                clear hK K
                try simp only [Act.put, List.getElem_toArray, List.getElem_cons_zero, List.getElem_cons_succ, List.setIfInBounds_toArray, List.set_cons_zero, List.set_cons_succ]
                refine wpAnyH_take (i := 17) (oi := _) (v := ?_) rfl (by kernel_rfl) (by kernel_rfl) (by kernel_rfl) (fun _ _ _ h => h) (Or.inl ⟨by rfl, ?_⟩) (by assumption) ?_
                rotate_left
                · (intro w hSw; (try dsimp only at hSw); go_simp; try with_reducible rfl)
                try simp only [Act.put, List.getElem_toArray, List.getElem_cons_zero, List.getElem_cons_succ, List.setIfInBounds_toArray, List.set_cons_zero, List.set_cons_succ]
                refine wpAnyH_take (i := 18) (oi := _) (v := ?_) rfl (by kernel_rfl) (by kernel_rfl) (by kernel_rfl) (fun _ _ _ h => h) (Or.inl ⟨by rfl, ?_⟩) (by assumption) ?_
                rotate_left
                · (intro w hSw; (try dsimp only at hSw); go_simp; try with_reducible rfl)
                try simp only [Act.put, List.getElem_toArray, List.getElem_cons_zero, List.getElem_cons_succ, List.setIfInBounds_toArray, List.set_cons_zero, List.set_cons_succ]
                refine wpAnyH_ready (rs := [19]) (by kernel_rfl) (by simp) ?_
                refine (AllReadyH.cons (o := _) rfl (fun K hK => ?_) AllReadyH.nil)
                obtain ⟨hcQ, hfQ, hlQ⟩ := Blk.all (show Blk W p 71 _ from hs.at 4 rfl)
                go_simp
                replace hs := hs.set4 2 (.slice A11 n11 c11)
                try clear hHeld
                refine hK.out _ _ (by (try dsimp only); all_goals trivial) (fun hHeld => ?_)
                clear hK K
                try simp only [Act.put, List.getElem_toArray, List.getElem_cons_zero, List.getElem_cons_succ, List.setIfInBounds_toArray, List.set_cons_zero, List.set_cons_succ]
                clear hcQ hfQ hlQ
                refine wpAnyH_done (by kernel_rfl) ?_ _
                generalize World.setCell _ _ _ = W at hs ⊢
                replace hs := hs.swap3.drop
                have HS := Lib.hid hs
                clear hs
                go_wp2
                go_returns
                refine Ret.mk (.refl I) HS.out ⟨rfl, ⟨by rw [HE.out]; rfl, _, _, _, by rw [HE.out]; unfold houR; dsimp only; rw [← HN11.out]; rfl⟩⟩
            · skip
              have hcQ : W.cell? ⟨p, 2, none⟩ = some (.slice (some ⟨g5, 0, none⟩) h.ss.length cb) := by first | exact Blk.cell (hs.at 3 rfl) 2 | exact Blk.cell (hs.at 4 rfl) 2
              go_simp
              try clear hHeld
              refine hK.out _ _ (by (try dsimp only); all_goals trivial) (fun hHeld => ?_)
              clear hK K
              try simp only [Act.put, List.getElem_toArray, List.getElem_cons_zero, List.getElem_cons_succ, List.setIfInBounds_toArray, List.set_cons_zero, List.set_cons_succ]
              clear hcQ
              refine wpAnyH_take (i := 15) (oi := _) (v := ?_) rfl (by kernel_rfl) (by kernel_rfl) (by kernel_rfl) (fun _ _ _ h => h) (Or.inl ⟨by rfl, ?_⟩) (by assumption) ?_
              rotate_left
              · (intro w hSw; (try dsimp only at hSw); go_simp; rw [HW.out, if_pos ⟨by omega, by omega⟩, Int.toNat_natCast, HA2.out])
              try simp only [Act.put, List.getElem_toArray, List.getElem_cons_zero, List.getElem_cons_succ, List.setIfInBounds_toArray, List.set_cons_zero, List.set_cons_succ]
              refine wpAnyH_ready (rs := [5]) (by kernel_rfl) (by simp) ?_
              refine (AllReadyH.cons (o := _) rfl (fun K hK => ?_) AllReadyH.nil)
              have hcQ : W.cell? ⟨p, 2, none⟩ = some (.slice (some ⟨g5, 0, none⟩) h.ss.length cb) := by first | exact Blk.cell (hs.at 3 rfl) 2 | exact Blk.cell (hs.at 4 rfl) 2
              go_simp
              try clear hHeld
              refine hK.out _ _ (by (try dsimp only); all_goals trivial) (fun hHeld => ?_)
              clear hK K
              try simp only [Act.put, List.getElem_toArray, List.getElem_cons_zero, List.getElem_cons_succ, List.setIfInBounds_toArray, List.set_cons_zero, List.set_cons_succ]
              clear hcQ
              refine wpAnyH_take (i := 7) (oi := _) (v := ?_) rfl (by kernel_rfl) (by kernel_rfl) (by kernel_rfl) (fun _ _ _ h => h) (Or.inl ⟨by rfl, ?_⟩) (by assumption) ?_
              rotate_left
              · (intro w hSw; (try dsimp only at hSw); go_simp; rw [if_pos (by omega)])
              try simp only [Act.put, List.getElem_toArray, List.getElem_cons_zero, List.getElem_cons_succ, List.setIfInBounds_toArray, List.set_cons_zero, List.set_cons_succ]
              refine wpAnyH_ready (rs := [8]) (by kernel_rfl) (by simp) ?_
              refine (AllReadyH.cons (o := _) rfl (fun K hK => ?_) AllReadyH.nil)
              refine step_append_src _ (by rfl) _ _ 56 56 (by rfl) 0 88 i3 (.agg #[.int .i64 0, .int .i64 0, .int .i64 0]) 3 24 Try.underlying56 hi hz0 hz1 hz2 rfl _ 0 [] (by rfl) hs.head _ k _ (by rfl) (own_src (f := sbC) (fun _ => rfl) sb_one (hs.at 3 rfl) Try.underlying56 0 k _ (by omega) (by omega)) (by unfold maxLen; omega) (by omega) (Nat.zero_le _) ?_
              intro v' W hown' hgrow hat
              have hown2 : W.ownsRow 0 88 3 v' k (flat sbC (h.ss.take k)) := by simpa using hown'
              obtain ⟨A10, c10, rfl⟩ := own_form hown2
              replace hs := hs.grown hgrow hown2 hat
              clear hown' hown2 hgrow hat
              try clear hHeld
              refine hK.out _ _ (by (try dsimp only); all_goals trivial) (fun hHeld => ?_)
              clear hK K
              try simp only [Act.put, List.getElem_toArray, List.getElem_cons_zero, List.getElem_cons_succ, List.setIfInBounds_toArray, List.set_cons_zero, List.set_cons_succ]
              refine wpAnyH_ready (rs := [16]) (by kernel_rfl) (by simp) ?_
              refine (AllReadyH.cons (o := _) rfl (fun K hK => ?_) AllReadyH.nil)
              refine step_append_src _ (by rfl) _ _ 56 56 (by rfl) 0 88 i3 (.agg #[.int .i64 0, .int .i64 0, .int .i64 0]) 3 24 Try.underlying56 hi hz0 hz1 hz2 rfl _ k (flat sbC (h.ss.take k)) (by rfl) hs.head _ (h.ss.length - (k + 1)) _ (by rfl) (own_src2 (f := sbC) (fun _ => rfl) sb_one (hs.at 3 rfl) Try.underlying56 (k + 1) _ (by omega) HA3.out) (by unfold maxLen; omega) (by omega) (Nat.zero_le _) ?_
              intro v' W hown' hgrow hat
              have hown2 : W.ownsRow 0 88 3 v' (h.ss.take k ++ h.ss.drop (k + 1)).length (flat sbC (h.ss.take k ++ h.ss.drop (k + 1))) := by rw [flat_append]; rw [show (h.ss.take k ++ h.ss.drop (k + 1)).length = k + (h.ss.length - (k + 1)) by rw [List.length_append, List.length_take, List.length_drop]; omega]; exact hown'
              obtain ⟨A11, c11, rfl⟩ := own_form hown2
              obtain ⟨n11, hn11⟩ : ∃ n11, n11 = (h.ss.take k ++ h.ss.drop (k + 1)).length := ⟨_, rfl⟩
              replace hs := hs.grown hgrow hown2 hat
              rw [← hn11] at hs ⊢
              have HN11 := Lib.hid hn11
              clear hown' hown2 hgrow hat hn11
              try clear hHeld
              refine hK.out _ _ (by (try dsimp only); all_goals trivial) (fun hHeld => ?_)
              clear hK K
              try simp only [Act.put, List.getElem_toArray, List.getElem_cons_zero, List.getElem_cons_succ, List.setIfInBounds_toArray, List.set_cons_zero, List.set_cons_succ]
              refine wpAnyH_take (i := 17) (oi := _) (v := ?_) rfl (by kernel_rfl) (by kernel_rfl) (by kernel_rfl) (fun _ _ _ h => h) (Or.inl ⟨by rfl, ?_⟩) (by assumption) ?_
              rotate_left
              · (intro w hSw; (try dsimp only at hSw); go_simp; try with_reducible rfl)
              try simp only [Act.put, List.getElem_toArray, List.getElem_cons_zero, List.getElem_cons_succ, List.setIfInBounds_toArray, List.set_cons_zero, List.set_cons_succ]
              refine wpAnyH_take (i := 18) (oi := _) (v := ?_) rfl (by kernel_rfl) (by kernel_rfl) (by kernel_rfl) (fun _ _ _ h => h) (Or.inl ⟨by rfl, ?_⟩) (by assumption) ?_
              rotate_left
              · (intro w hSw; (try dsimp only at hSw); go_simp; try with_reducible rfl)
              try simp only [Act.put, List.getElem_toArray, List.getElem_cons_zero, List.getElem_cons_succ, List.setIfInBounds_toArray, List.set_cons_zero, List.set_cons_succ]
              refine wpAnyH_ready (rs := [19]) (by kernel_rfl) (by simp) ?_
              refine (AllReadyH.cons (o := _) rfl (fun K hK => ?_) AllReadyH.nil)
              obtain ⟨hcQ, hfQ, hlQ⟩ := Blk.all (show Blk W p 71 _ from hs.at 4 rfl)
              go_simp
              replace hs := hs.set4 2 (.slice A11 n11 c11)
              try clear hHeld
              refine hK.out _ _ (by (try dsimp only); all_goals trivial) (fun hHeld => ?_)
              clear hK K
              try simp only [Act.put, List.getElem_toArray, List.getElem_cons_zero, List.getElem_cons_succ, List.setIfInBounds_toArray, List.set_cons_zero, List.set_cons_succ]
              clear hcQ hfQ hlQ
              refine wpAnyH_done (by kernel_rfl) ?_ _
              generalize World.setCell _ _ _ = W at hs ⊢
              replace hs := hs.swap3.drop
              have HS := Lib.hid hs
              clear hs
              go_wp2
              go_returns
              refine Ret.mk (.refl I) HS.out ⟨rfl, ⟨by rw [HE.out]; rfl, _, _, _, by rw [HE.out]; unfold houR; dsimp only; rw [← HN11.out]; rfl⟩⟩
          · skip
            have hcQ : W.cell? ⟨p, 2, none⟩ = some (.slice (some ⟨g5, 0, none⟩) h.ss.length cb) := by first | exact Blk.cell (hs.at 3 rfl) 2 | exact Blk.cell (hs.at 4 rfl) 2
            go_simp
            try clear hHeld
            refine hK.out _ _ (by (try dsimp only); all_goals trivial) (fun hHeld => ?_)
            clear hK K
            try simp only [Act.put, List.getElem_toArray, List.getElem_cons_zero, List.getElem_cons_succ, List.setIfInBounds_toArray, List.set_cons_zero, List.set_cons_succ]
            clear hcQ
            refine wpAnyH_take (i := 7) (oi := _) (v := ?_) rfl (by kernel_rfl) (by kernel_rfl) (by kernel_rfl) (fun _ _ _ h => h) (Or.inl ⟨by rfl, ?_⟩) (by assumption) ?_
            rotate_left
            · (intro w hSw; (try dsimp only at hSw); go_simp; rw [if_pos (by omega)])
            try simp only [Act.put, List.getElem_toArray, List.getElem_cons_zero, List.getElem_cons_succ, List.setIfInBounds_toArray, List.set_cons_zero, List.set_cons_succ]
            refine wpAnyH_ready (rs := [1, 12]) (by kernel_rfl) (by simp) ?_
            refine (AllReadyH.cons (o := _) rfl (fun K hK => ?_) (AllReadyH.cons (o := _) rfl (fun K hK => ?_) AllReadyH.nil))
            · skip
              go_simp
              try clear hHeld
              refine hK.out _ _ (by (try dsimp only); all_goals trivial) (fun hHeld => ?_)
              clear hK K
              try simp only [Act.put, List.getElem_toArray, List.getElem_cons_zero, List.getElem_cons_succ, List.setIfInBounds_toArray, List.set_cons_zero, List.set_cons_succ]
              generalize hw : World.alloc W _ = W at hHeld ⊢
              replace hs := hs.lit0S (s := 3) hw
              clear hw
              refine wpAnyH_ready (rs := [8, 12]) (by kernel_rfl) (by simp) ?_
              refine (AllReadyH.cons (o := _) rfl (fun K hK => ?_) (AllReadyH.cons (o := _) rfl (fun K hK => ?_) AllReadyH.nil))
              · skip
                refine step_append_src _ (by rfl) _ _ 56 56 (by rfl) 0 88 i3 (.agg #[.int .i64 0, .int .i64 0, .int .i64 0]) 3 24 Try.underlying56 hi hz0 hz1 hz2 rfl _ 0 [] (by rfl) hs.head _ k _ (by rfl) (own_src (f := sbC) (fun _ => rfl) sb_one (hs.at 3 rfl) Try.underlying56 0 k _ (by omega) (by omega)) (by unfold maxLen; omega) (by omega) (Nat.zero_le _) ?_
                intro v' W hown' hgrow hat
                have hown2 : W.ownsRow 0 88 3 v' k (flat sbC (h.ss.take k)) := by simpa using hown'
                obtain ⟨A10, c10, rfl⟩ := own_form hown2
                replace hs := hs.grown hgrow hown2 hat
                clear hown' hown2 hgrow hat
                try clear hHeld
                refine hK.out _ _ (by (try dsimp only); all_goals trivial) (fun hHeld => ?_)
                clear hK K
                try simp only [Act.put, List.getElem_toArray, List.getElem_cons_zero, List.getElem_cons_succ, List.setIfInBounds_toArray, List.set_cons_zero, List.set_cons_succ]
                refine wpAnyH_ready (rs := [12]) (by kernel_rfl) (by simp) ?_
                refine (AllReadyH.cons (o := _) rfl (fun K hK => ?_) AllReadyH.nil)
                have hcQ : W.cell? ⟨p, 2, none⟩ = some (.slice (some ⟨g5, 0, none⟩) h.ss.length cb) := by first | exact Blk.cell (hs.at 3 rfl) 2 | exact Blk.cell (hs.at 4 rfl) 2
                go_simp
                try clear hHeld
                refine hK.out _ _ (by (try dsimp only); all_goals trivial) (fun hHeld => ?_)
                clear hK K
                try simp only [Act.put, List.getElem_toArray, List.getElem_cons_zero, List.getElem_cons_succ, List.setIfInBounds_toArray, List.set_cons_zero, List.set_cons_succ]
                clear hcQ
                refine wpAnyH_take (i := 15) (oi := _) (v := ?_) rfl (by kernel_rfl) (by kernel_rfl) (by kernel_rfl) (fun _ _ _ h => h) (Or.inl ⟨by rfl, ?_⟩) (by assumption) ?_
                rotate_left
                · (intro w hSw; (try dsimp only at hSw); go_simp; rw [HW.out, if_pos ⟨by omega, by omega⟩, Int.toNat_natCast, HA2.out])
                try simp only [Act.put, List.getElem_toArray, List.getElem_cons_zero, List.getElem_cons_succ, List.setIfInBounds_toArray, List.set_cons_zero, List.set_cons_succ]
                refine wpAnyH_ready (rs := [16]) (by kernel_rfl) (by simp) ?_
                refine (AllReadyH.cons (o := _) rfl (fun K hK => ?_) AllReadyH.nil)
                refine step_append_src _ (by rfl) _ _ 56 56 (by rfl) 0 88 i3 (.agg #[.int .i64 0, .int .i64 0, .int .i64 0]) 3 24 Try.underlying56 hi hz0 hz1 hz2 rfl _ k (flat sbC (h.ss.take k)) (by rfl) hs.head _ (h.ss.length - (k + 1)) _ (by rfl) (own_src2 (f := sbC) (fun _ => rfl) sb_one (hs.at 3 rfl) Try.underlying56 (k + 1) _ (by omega) HA3.out) (by unfold maxLen; omega) (by omega) (Nat.zero_le _) ?_
                intro v' W hown' hgrow hat
                have hown2 : W.ownsRow 0 88 3 v' (h.ss.take k ++ h.ss.drop (k + 1)).length (flat sbC (h.ss.take k ++ h.ss.drop (k + 1))) := by rw [flat_append]; rw [show (h.ss.take k ++ h.ss.drop (k + 1)).length = k + (h.ss.length - (k + 1)) by rw [List.length_append, List.length_take, List.length_drop]; omega]; exact hown'
                obtain ⟨A11, c11, rfl⟩ := own_form hown2
                obtain ⟨n11, hn11⟩ : ∃ n11, n11 = (h.ss.take k ++ h.ss.drop (k + 1)).length := ⟨_, rfl⟩
                replace hs := hs.grown hgrow hown2 hat
                rw [← hn11] at hs ⊢
                have HN11 := Lib.hid hn11
                clear hown' hown2 hgrow hat hn11
                try clear hHeld
                refine hK.out _ _ (by (try dsimp only); all_goals trivial) (fun hHeld => ?_)
                clear hK K
                try simp only [Act.put, List.getElem_toArray, List.getElem_cons_zero, List.getElem_cons_succ, List.setIfInBounds_toArray, List.set_cons_zero, List.set_cons_succ]
                refine wpAnyH_take (i := 17) (oi := _) (v := ?_) rfl (by kernel_rfl) (by kernel_rfl) (by kernel_rfl) (fun _ _ _ h => h) (Or.inl ⟨by rfl, ?_⟩) (by assumption) ?_
                rotate_left
                · (intro w hSw; (try dsimp only at hSw); go_simp; try with_reducible rfl)
                try simp only [Act.put, List.getElem_toArray, List.getElem_cons_zero, List.getElem_cons_succ, List.setIfInBounds_toArray, List.set_cons_zero, List.set_cons_succ]
                refine wpAnyH_take (i := 18) (oi := _) (v := ?_) rfl (by kernel_rfl) (by kernel_rfl) (by kernel_rfl) (fun _ _ _ h => h) (Or.inl ⟨by rfl, ?_⟩) (by assumption) ?_
                rotate_left
                · (intro w hSw; (try dsimp only at hSw); go_simp; try with_reducible rfl)
                try simp only [Act.put, List.getElem_toArray, List.getElem_cons_zero, List.getElem_cons_succ, List.setIfInBounds_toArray, List.set_cons_zero, List.set_cons_succ]
                refine wpAnyH_ready (rs := [19]) (by kernel_rfl) (by simp) ?_
                refine (AllReadyH.cons (o := _) rfl (fun K hK => ?_) AllReadyH.nil)
                obtain ⟨hcQ, hfQ, hlQ⟩ := Blk.all (show Blk W p 71 _ from hs.at 4 rfl)
                go_simp
                replace hs := hs.set4 2 (.slice A11 n11 c11)
                try clear hHeld
                refine hK.out _ _ (by (try dsimp only); all_goals trivial) (fun hHeld => ?_)
                clear hK K
                try simp only [Act.put, List.getElem_toArray, List.getElem_cons_zero, List.getElem_cons_succ, List.setIfInBounds_toArray, List.set_cons_zero, List.set_cons_succ]
                clear hcQ hfQ hlQ
                refine wpAnyH_done (by kernel_rfl) ?_ _
                generalize World.setCell _ _ _ = W at hs ⊢
                replace hs := hs.swap3.drop
                have HS := Lib.hid hs
                clear hs
                go_wp2
                go_returns
                refine Ret.mk (.refl I) HS.out ⟨rfl, ⟨by rw [HE.out]; rfl, _, _, _, by rw [HE.out]; unfold houR; dsimp only; rw [← HN11.out]; rfl⟩⟩
              · skip
                have hcQ : W.cell? ⟨p, 2, none⟩ = some (.slice (some ⟨g5, 0, none⟩) h.ss.length cb) := by first | exact Blk.cell (hs.at 3 rfl) 2 | exact Blk.cell (hs.at 4 rfl) 2
                go_simp
                try clear hHeld
                refine hK.out _ _ (by (try dsimp only); all_goals trivial) (fun hHeld => ?_)
                clear hK K
                try simp only [Act.put, List.getElem_toArray, List.getElem_cons_zero, List.getElem_cons_succ, List.setIfInBounds_toArray, List.set_cons_zero, List.set_cons_succ]
                clear hcQ
                refine wpAnyH_take (i := 15) (oi := _) (v := ?_) rfl (by kernel_rfl) (by kernel_rfl) (by kernel_rfl) (fun _ _ _ h => h) (Or.inl ⟨by rfl, ?_⟩) (by assumption) ?_
                rotate_left
                · (intro w hSw; (try dsimp only at hSw); go_simp; rw [HW.out, if_pos ⟨by omega, by omega⟩, Int.toNat_natCast, HA2.out])
                try simp only [Act.put, List.getElem_toArray, List.getElem_cons_zero, List.getElem_cons_succ, List.setIfInBounds_toArray, List.set_cons_zero, List.set_cons_succ]
                refine wpAnyH_ready (rs := [8]) (by kernel_rfl) (by simp) ?_
                refine (AllReadyH.cons (o := _) rfl (fun K hK => ?_) AllReadyH.nil)
                refine step_append_src _ (by rfl) _ _ 56 56 (by rfl) 0 88 i3 (.agg #[.int .i64 0, .int .i64 0, .int .i64 0]) 3 24 Try.underlying56 hi hz0 hz1 hz2 rfl _ 0 [] (by rfl) hs.head _ k _ (by rfl) (own_src (f := sbC) (fun _ => rfl) sb_one (hs.at 3 rfl) Try.underlying56 0 k _ (by omega) (by omega)) (by unfold maxLen; omega) (by omega) (Nat.zero_le _) ?_
                intro v' W hown' hgrow hat
                have hown2 : W.ownsRow 0 88 3 v' k (flat sbC (h.ss.take k)) := by simpa using hown'
                obtain ⟨A10, c10, rfl⟩ := own_form hown2
                replace hs := hs.grown hgrow hown2 hat
                clear hown' hown2 hgrow hat
                try clear hHeld
                refine hK.out _ _ (by (try dsimp only); all_goals trivial) (fun hHeld => ?_)
                clear hK K
                try simp only [Act.put, List.getElem_toArray, List.getElem_cons_zero, List.getElem_cons_succ, List.setIfInBounds_toArray, List.set_cons_zero, List.set_cons_succ]
                refine wpAnyH_ready (rs := [16]) (by kernel_rfl) (by simp) ?_
                refine (AllReadyH.cons (o := _) rfl (fun K hK => ?_) AllReadyH.nil)
                refine step_append_src _ (by rfl) _ _ 56 56 (by rfl) 0 88 i3 (.agg #[.int .i64 0, .int .i64 0, .int .i64 0]) 3 24 Try.underlying56 hi hz0 hz1 hz2 rfl _ k (flat sbC (h.ss.take k)) (by rfl) hs.head _ (h.ss.length - (k + 1)) _ (by rfl) (own_src2 (f := sbC) (fun _ => rfl) sb_one (hs.at 3 rfl) Try.underlying56 (k + 1) _ (by omega) HA3.out) (by unfold maxLen; omega) (by omega) (Nat.zero_le _) ?_
                intro v' W hown' hgrow hat
                have hown2 : W.ownsRow 0 88 3 v' (h.ss.take k ++ h.ss.drop (k + 1)).length (flat sbC (h.ss.take k ++ h.ss.drop (k + 1))) := by rw [flat_append]; rw [show (h.ss.take k ++ h.ss.drop (k + 1)).length = k + (h.ss.length - (k + 1)) by rw [List.length_append, List.length_take, List.length_drop]; omega]; exact hown'
                obtain ⟨A11, c11, rfl⟩ := own_form hown2
                obtain ⟨n11, hn11⟩ : ∃ n11, n11 = (h.ss.take k ++ h.ss.drop (k + 1)).length := ⟨_, rfl⟩
                replace hs := hs.grown hgrow hown2 hat
                rw [← hn11] at hs ⊢
                have HN11 := Lib.hid hn11
                clear hown' hown2 hgrow hat hn11
                try clear hHeld
                refine hK.out _ _ (by (try dsimp only); all_goals trivial) (fun hHeld => ?_)
                clear hK K
                try simp only [Act.put, List.getElem_toArray, List.getElem_cons_zero, List.getElem_cons_succ, List.setIfInBounds_toArray, List.set_cons_zero, List.set_cons_succ]
                refine wpAnyH_take (i := 17) (oi := _) (v := ?_) rfl (by kernel_rfl) (by kernel_rfl) (by kernel_rfl) (fun _ _ _ h => h) (Or.inl ⟨by rfl, ?_⟩) (by assumption) ?_
                rotate_left
                · (intro w hSw; (try dsimp only at hSw); go_simp; try with_reducible rfl)
                try simp only [Act.put, List.getElem_toArray, List.getElem_cons_zero, List.getElem_cons_succ, List.setIfInBounds_toArray, List.set_cons_zero, List.set_cons_succ]
                refine wpAnyH_take (i := 18) (oi := _) (v := ?_) rfl (by kernel_rfl) (by kernel_rfl) (by kernel_rfl) (fun _ _ _ h => h) (Or.inl ⟨by rfl, ?_⟩) (by assumption) ?_
                rotate_left
                · (intro w hSw; (try dsimp only at hSw); go_simp; try with_reducible rfl)
                try simp only [Act.put, List.getElem_toArray, List.getElem_cons_zero, List.getElem_cons_succ, List.setIfInBounds_toArray, List.set_cons_zero, List.set_cons_succ]
                refine wpAnyH_ready (rs := [19]) (by kernel_rfl) (by simp) ?_
                refine (AllReadyH.cons (o := _) rfl (fun K hK => ?_) AllReadyH.nil)
                obtain ⟨hcQ, hfQ, hlQ⟩ := Blk.all (show Blk W p 71 _ from hs.at 4 rfl)
                go_simp
                replace hs := hs.set4 2 (.slice A11 n11 c11)
                try clear hHeld
                refine hK.out _ _ (by (try dsimp only); all_goals trivial) (fun hHeld => ?_)
                clear hK K
                try simp only [Act.put, List.getElem_toArray, List.getElem_cons_zero, List.getElem_cons_succ, List.setIfInBounds_toArray, List.set_cons_zero, List.set_cons_succ]
                clear hcQ hfQ hlQ
                refine wpAnyH_done (by kernel_rfl) ?_ _
                generalize World.setCell _ _ _ = W at hs ⊢
                replace hs := hs.swap3.drop
                have HS := Lib.hid hs
                clear hs
                go_wp2
                go_returns
                refine Ret.mk (.refl I) HS.out ⟨rfl, ⟨by rw [HE.out]; rfl, _, _, _, by rw [HE.out]; unfold houR; dsimp only; rw [← HN11.out]; rfl⟩⟩
            · skip
              have hcQ : W.cell? ⟨p, 2, none⟩ = some (.slice (some ⟨g5, 0, none⟩) h.ss.length cb) := by first | exact Blk.cell (hs.at 3 rfl) 2 | exact Blk.cell (hs.at 4 rfl) 2
              go_simp
              try clear hHeld
              refine hK.out _ _ (by (try dsimp only); all_goals trivial) (fun hHeld => ?_)
              clear hK K
              try simp only [Act.put, List.getElem_toArray, List.getElem_cons_zero, List.getElem_cons_succ, List.setIfInBounds_toArray, List.set_cons_zero, List.set_cons_succ]
              clear hcQ
              refine wpAnyH_take (i := 15) (oi := _) (v := ?_) rfl (by kernel_rfl) (by kernel_rfl) (by kernel_rfl) (fun _ _ _ h => h) (Or.inl ⟨by rfl, ?_⟩) (by assumption) ?_
              rotate_left
              · (intro w hSw; (try dsimp only at hSw); go_simp; rw [HW.out, if_pos ⟨by omega, by omega⟩, Int.toNat_natCast, HA2.out])
              try simp only [Act.put, List.getElem_toArray, List.getElem_cons_zero, List.getElem_cons_succ, List.setIfInBounds_toArray, List.set_cons_zero, List.set_cons_succ]
              refine wpAnyH_ready (rs := [1]) (by kernel_rfl) (by simp) ?_
              refine (AllReadyH.cons (o := _) rfl (fun K hK => ?_) AllReadyH.nil)
              go_simp
              try clear hHeld
              refine hK.out _ _ (by (try dsimp only); all_goals trivial) (fun hHeld => ?_)
              clear hK K
              try simp only [Act.put, List.getElem_toArray, List.getElem_cons_zero, List.getElem_cons_succ, List.setIfInBounds_toArray, List.set_cons_zero, List.set_cons_succ]
              generalize hw : World.alloc W _ = W at hHeld ⊢
              replace hs := hs.lit0S (s := 3) hw
              clear hw
              refine wpAnyH_ready (rs := [8]) (by kernel_rfl) (by simp) ?_
              refine (AllReadyH.cons (o := _) rfl (fun K hK => ?_) AllReadyH.nil)
              refine step_append_src _ (by rfl) _ _ 56 56 (by rfl) 0 88 i3 (.agg #[.int .i64 0, .int .i64 0, .int .i64 0]) 3 24 Try.underlying56 hi hz0 hz1 hz2 rfl _ 0 [] (by rfl) hs.head _ k _ (by rfl) (own_src (f := sbC) (fun _ => rfl) sb_one (hs.at 3 rfl) Try.underlying56 0 k _ (by omega) (by omega)) (by unfold maxLen; omega) (by omega) (Nat.zero_le _) ?_
              intro v' W hown' hgrow hat
              have hown2 : W.ownsRow 0 88 3 v' k (flat sbC (h.ss.take k)) := by simpa using hown'
              obtain ⟨A10, c10, rfl⟩ := own_form hown2
              replace hs := hs.grown hgrow hown2 hat
              clear hown' hown2 hgrow hat
              try clear hHeld
              refine hK.out _ _ (by (try dsimp only); all_goals trivial) (fun hHeld => ?_)
              clear hK K
              try simp only [Act.put, List.getElem_toArray, List.getElem_cons_zero, List.getElem_cons_succ, List.setIfInBounds_toArray, List.set_cons_zero, List.set_cons_succ]
              refine wpAnyH_ready (rs := [16]) (by kernel_rfl) (by simp) ?_
              refine (AllReadyH.cons (o := _) rfl (fun K hK => ?_) AllReadyH.nil)
              refine step_append_src _ (by rfl) _ _ 56 56 (by rfl) 0 88 i3 (.agg #[.int .i64 0, .int .i64 0, .int .i64 0]) 3 24 Try.underlying56 hi hz0 hz1 hz2 rfl _ k (flat sbC (h.ss.take k)) (by rfl) hs.head _ (h.ss.length - (k + 1)) _ (by rfl) (own_src2 (f := sbC) (fun _ => rfl) sb_one (hs.at 3 rfl) Try.underlying56 (k + 1) _ (by omega) HA3.out) (by unfold maxLen; omega) (by omega) (Nat.zero_le _) ?_
              intro v' W hown' hgrow hat
              have hown2 : W.ownsRow 0 88 3 v' (h.ss.take k ++ h.ss.drop (k + 1)).length (flat sbC (h.ss.take k ++ h.ss.drop (k + 1))) := by rw [flat_append]; rw [show (h.ss.take k ++ h.ss.drop (k + 1)).length = k + (h.ss.length - (k + 1)) by rw [List.length_append, List.length_take, List.length_drop]; omega]; exact hown'
              obtain ⟨A11, c11, rfl⟩ := own_form hown2
              obtain ⟨n11, hn11⟩ : ∃ n11, n11 = (h.ss.take k ++ h.ss.drop (k + 1)).length := ⟨_, rfl⟩
              replace hs := hs.grown hgrow hown2 hat
              rw [← hn11] at hs ⊢
              have HN11 := Lib.hid hn11
              clear hown' hown2 hgrow hat hn11
              try clear hHeld
              refine hK.out _ _ (by (try dsimp only); all_goals trivial) (fun hHeld => ?_)
              clear hK K
              try simp only [Act.put, List.getElem_toArray, List.getElem_cons_zero, List.getElem_cons_succ, List.setIfInBounds_toArray, List.set_cons_zero, List.set_cons_succ]
              refine wpAnyH_take (i := 17) (oi := _) (v := ?_) rfl (by kernel_rfl) (by kernel_rfl) (by kernel_rfl) (fun _ _ _ h => h) (Or.inl ⟨by rfl, ?_⟩) (by assumption) ?_
              rotate_left
              · (intro w hSw; (try dsimp only at hSw); go_simp; try with_reducible rfl)
              try simp only [Act.put, List.getElem_toArray, List.getElem_cons_zero, List.getElem_cons_succ, List.setIfInBounds_toArray, List.set_cons_zero, List.set_cons_succ]
              refine wpAnyH_take (i := 18) (oi := _) (v := ?_) rfl (by kernel_rfl) (by kernel_rfl) (by kernel_rfl) (fun _ _ _ h => h) (Or.inl ⟨by rfl, ?_⟩) (by assumption) ?_
              rotate_left
              · (intro w hSw; (try dsimp only at hSw); go_simp; try with_reducible rfl)
              try simp only [Act.put, List.getElem_toArray, List.getElem_cons_zero, List.getElem_cons_succ, List.setIfInBounds_toArray, List.set_cons_zero, List.set_cons_succ]
              refine wpAnyH_ready (rs := [19]) (by kernel_rfl) (by simp) ?_
              refine (AllReadyH.cons (o := _) rfl (fun K hK => ?_) AllReadyH.nil)
              obtain ⟨hcQ, hfQ, hlQ⟩ := Blk.all (show Blk W p 71 _ from hs.at 4 rfl)
              go_simp
              replace hs := hs.set4 2 (.slice A11 n11 c11)
              try clear hHeld
              refine hK.out _ _ (by (try dsimp only); all_goals trivial) (fun hHeld => ?_)
              clear hK K
              try simp only [Act.put, List.getElem_toArray, List.getElem_cons_zero, List.getElem_cons_succ, List.setIfInBounds_toArray, List.set_cons_zero, List.set_cons_succ]
              clear hcQ hfQ hlQ
              refine wpAnyH_done (by kernel_rfl) ?_ _
              generalize World.setCell _ _ _ = W at hs ⊢
              replace hs := hs.swap3.drop
              have HS := Lib.hid hs
              clear hs
              go_wp2
              go_returns
              refine Ret.mk (.refl I) HS.out ⟨rfl, ⟨by rw [HE.out]; rfl, _, _, _, by rw [HE.out]; unfold houR; dsimp only; rw [← HN11.out]; rfl⟩⟩
          · skip
            have hcQ : W.cell? ⟨p, 2, none⟩ = some (.slice (some ⟨g5, 0, none⟩) h.ss.length cb) := by first | exact Blk.cell (hs.at 3 rfl) 2 | exact Blk.cell (hs.at 4 rfl) 2
            go_simp
            try clear hHeld
            refine hK.out _ _ (by (try dsimp only); all_goals trivial) (fun hHeld => ?_)
            clear hK K
            try simp only [Act.put, List.getElem_toArray, List.getElem_cons_zero, List.getElem_cons_succ, List.setIfInBounds_toArray, List.set_cons_zero, List.set_cons_succ]
            clear hcQ
            refine wpAnyH_take (i := 15) (oi := _) (v := ?_) rfl (by kernel_rfl) (by kernel_rfl) (by kernel_rfl) (fun _ _ _ h => h) (Or.inl ⟨by rfl, ?_⟩) (by assumption) ?_
            rotate_left
            · (intro w hSw; (try dsimp only at hSw); go_simp; rw [HW.out, if_pos ⟨by omega, by omega⟩, Int.toNat_natCast, HA2.out])
            try simp only [Act.put, List.getElem_toArray, List.getElem_cons_zero, List.getElem_cons_succ, List.setIfInBounds_toArray, List.set_cons_zero, List.set_cons_succ]
            refine wpAnyH_ready (rs := [1, 5]) (by kernel_rfl) (by simp) ?_
            refine (AllReadyH.cons (o := _) rfl (fun K hK => ?_) (AllReadyH.cons (o := _) rfl (fun K hK => ?_) AllReadyH.nil))
            · skip
              go_simp
              try clear hHeld
              refine hK.out _ _ (by (try dsimp only); all_goals trivial) (fun hHeld => ?_)
              clear hK K
              try simp only [Act.put, List.getElem_toArray, List.getElem_cons_zero, List.getElem_cons_succ, List.setIfInBounds_toArray, List.set_cons_zero, List.set_cons_succ]
              generalize hw : World.alloc W _ = W at hHeld ⊢
              replace hs := hs.lit0S (s := 3) hw
              clear hw
              refine wpAnyH_ready (rs := [5]) (by kernel_rfl) (by simp) ?_
              refine (AllReadyH.cons (o := _) rfl (fun K hK => ?_) AllReadyH.nil)
              have hcQ : W.cell? ⟨p, 2, none⟩ = some (.slice (some ⟨g5, 0, none⟩) h.ss.length cb) := by first | exact Blk.cell (hs.at 3 rfl) 2 | exact Blk.cell (hs.at 4 rfl) 2
              go_simp
              try clear hHeld
              refine hK.out _ _ (by (try dsimp only); all_goals trivial) (fun hHeld => ?_)
              clear hK K
              try simp only [Act.put, List.getElem_toArray, List.getElem_cons_zero, List.getElem_cons_succ, List.setIfInBounds_toArray, List.set_cons_zero, List.set_cons_succ]
              clear hcQ
              refine wpAnyH_take (i := 7) (oi := _) (v := ?_) rfl (by kernel_rfl) (by kernel_rfl) (by kernel_rfl) (fun _ _ _ h => h) (Or.inl ⟨by rfl, ?_⟩) (by assumption) ?_
              rotate_left
              · (intro w hSw; (try dsimp only at hSw); go_simp; rw [if_pos (by omega)])
              try simp only [Act.put, List.getElem_toArray, List.getElem_cons_zero, List.getElem_cons_succ, List.setIfInBounds_toArray, List.set_cons_zero, List.set_cons_succ]
              refine wpAnyH_ready (rs := [8]) (by kernel_rfl) (by simp) ?_
              refine (AllReadyH.cons (o := _) rfl (fun K hK => ?_) AllReadyH.nil)
              refine step_append_src _ (by rfl) _ _ 56 56 (by rfl) 0 88 i3 (.agg #[.int .i64 0, .int .i64 0, .int .i64 0]) 3 24 Try.underlying56 hi hz0 hz1 hz2 rfl _ 0 [] (by rfl) hs.head _ k _ (by rfl) (own_src (f := sbC) (fun _ => rfl) sb_one (hs.at 3 rfl) Try.underlying56 0 k _ (by omega) (by omega)) (by unfold maxLen; omega) (by omega) (Nat.zero_le _) ?_
              intro v' W hown' hgrow hat
              have hown2 : W.ownsRow 0 88 3 v' k (flat sbC (h.ss.take k)) := by simpa using hown'
              obtain ⟨A10, c10, rfl⟩ := own_form hown2
              replace hs := hs.grown hgrow hown2 hat
              clear hown' hown2 hgrow hat
              try clear hHeld
              refine hK.out _ _ (by (try dsimp only); all_goals trivial) (fun hHeld => ?_)
              clear hK K
              try simp only [Act.put, List.getElem_toArray, List.getElem_cons_zero, List.getElem_cons_succ, List.setIfInBounds_toArray, List.set_cons_zero, List.set_cons_succ]
              refine wpAnyH_ready (rs := [16]) (by kernel_rfl) (by simp) ?_
              refine (AllReadyH.cons (o := _) rfl (fun K hK => ?_) AllReadyH.nil)
              refine step_append_src _ (by rfl) _ _ 56 56 (by rfl) 0 88 i3 (.agg #[.int .i64 0, .int .i64 0, .int .i64 0]) 3 24 Try.underlying56 hi hz0 hz1 hz2 rfl _ k (flat sbC (h.ss.take k)) (by rfl) hs.head _ (h.ss.length - (k + 1)) _ (by rfl) (own_src2 (f := sbC) (fun _ => rfl) sb_one (hs.at 3 rfl) Try.underlying56 (k + 1) _ (by omega) HA3.out) (by unfold maxLen; omega) (by omega) (Nat.zero_le _) ?_
              intro v' W hown' hgrow hat
              have hown2 : W.ownsRow 0 88 3 v' (h.ss.take k ++ h.ss.drop (k + 1)).length (flat sbC (h.ss.take k ++ h.ss.drop (k + 1))) := by rw [flat_append]; rw [show (h.ss.take k ++ h.ss.drop (k + 1)).length = k + (h.ss.length - (k + 1)) by rw [List.length_append, List.length_take, List.length_drop]; omega]; exact hown'
              obtain ⟨A11, c11, rfl⟩ := own_form hown2
              obtain ⟨n11, hn11⟩ : ∃ n11, n11 = (h.ss.take k ++ h.ss.drop (k + 1)).length := ⟨_, rfl⟩
              replace hs := hs.grown hgrow hown2 hat
              rw [← hn11] at hs ⊢
              have HN11 := Lib.hid hn11
              clear hown' hown2 hgrow hat hn11
              try clear hHeld
              refine hK.out _ _ (by (try dsimp only); all_goals trivial) (fun hHeld => ?_)
              clear hK K
              try simp only [Act.put, List.getElem_toArray, List.getElem_cons_zero, List.getElem_cons_succ, List.setIfInBounds_toArray, List.set_cons_zero, List.set_cons_succ]
              refine wpAnyH_take (i := 17) (oi := _) (v := ?_) rfl (by kernel_rfl) (by kernel_rfl) (by kernel_rfl) (fun _ _ _ h => h) (Or.inl ⟨by rfl, ?_⟩) (by assumption) ?_
              rotate_left
              · (intro w hSw; (try dsimp only at hSw); go_simp; try with_reducible rfl)
              try simp only [Act.put, List.getElem_toArray, List.getElem_cons_zero, List.getElem_cons_succ, List.setIfInBounds_toArray, List.set_cons_zero, List.set_cons_succ]
              refine wpAnyH_take (i := 18) (oi := _) (v := ?_) rfl (by kernel_rfl) (by kernel_rfl) (by kernel_rfl) (fun _ _ _ h => h) (Or.inl ⟨by rfl, ?_⟩) (by assumption) ?_
              rotate_left
              · (intro w hSw; (try dsimp only at hSw); go_simp; try with_reducible rfl)
              try simp only [Act.put, List.getElem_toArray, List.getElem_cons_zero, List.getElem_cons_succ, List.setIfInBounds_toArray, List.set_cons_zero, List.set_cons_succ]
              refine wpAnyH_ready (rs := [19]) (by kernel_rfl) (by simp) ?_
              refine (AllReadyH.cons (o := _) rfl (fun K hK => ?_) AllReadyH.nil)
              obtain ⟨hcQ, hfQ, hlQ⟩ := Blk.all (show Blk W p 71 _ from hs.at 4 rfl)
              go_simp
              replace hs := hs.set4 2 (.slice A11 n11 c11)
              try clear hHeld
              refine hK.out _ _ (by (try dsimp only); all_goals trivial) (fun hHeld => ?_)
              clear hK K
              try simp only [Act.put, List.getElem_toArray, List.getElem_cons_zero, List.getElem_cons_succ, List.setIfInBounds_toArray, List.set_cons_zero, List.set_cons_succ]
              clear hcQ hfQ hlQ
              refine wpAnyH_done (by kernel_rfl) ?_ _
              generalize World.setCell _ _ _ = W at hs ⊢
              replace hs := hs.swap3.drop
              have HS := Lib.hid hs
              clear hs
              go_wp2
              go_returns
              refine Ret.mk (.refl I) HS.out ⟨rfl, ⟨by rw [HE.out]; rfl, _, _, _, by rw [HE.out]; unfold houR; dsimp only; rw [← HN11.out]; rfl⟩⟩
            · skip
              have hcQ : W.cell? ⟨p, 2, none⟩ = some (.slice (some ⟨g5, 0, none⟩) h.ss.length cb) := by first | exact Blk.cell (hs.at 3 rfl) 2 | exact Blk.cell (hs.at 4 rfl) 2
              go_simp
              try clear hHeld
              refine hK.out _ _ (by (try dsimp only); all_goals trivial) (fun hHeld => ?_)
              clear hK K
              try simp only [Act.put, List.getElem_toArray, List.getElem_cons_zero, List.getElem_cons_succ, List.setIfInBounds_toArray, List.set_cons_zero, List.set_cons_succ]
              clear hcQ
              refine wpAnyH_take (i := 7) (oi := _) (v := ?_) rfl (by kernel_rfl) (by kernel_rfl) (by kernel_rfl) (fun _ _ _ h => h) (Or.inl ⟨by rfl, ?_⟩) (by assumption) ?_
              rotate_left
              · (intro w hSw; (try dsimp only at hSw); go_simp; rw [if_pos (by omega)])
              try simp only [Act.put, List.getElem_toArray, List.getElem_cons_zero, List.getElem_cons_succ, List.setIfInBounds_toArray, List.set_cons_zero, List.set_cons_succ]
              refine wpAnyH_ready (rs := [1]) (by kernel_rfl) (by simp) ?_
              refine (AllReadyH.cons (o := _) rfl (fun K hK => ?_) AllReadyH.nil)
              go_simp
              try clear hHeld
              refine hK.out _ _ (by (try dsimp only); all_goals trivial) (fun hHeld => ?_)
              clear hK K
              try simp only [Act.put, List.getElem_toArray, List.getElem_cons_zero, List.getElem_cons_succ, List.setIfInBounds_toArray, List.set_cons_zero, List.set_cons_succ]
              generalize hw : World.alloc W _ = W at hHeld ⊢
              replace hs := hs.lit0S (s := 3) hw
              clear hw
              refine wpAnyH_ready (rs := [8]) (by kernel_rfl) (by simp) ?_
              refine (AllReadyH.cons (o := _) rfl (fun K hK => ?_) AllReadyH.nil)
              refine step_append_src _ (by rfl) _ _ 56 56 (by rfl) 0 88 i3 (.agg #[.int .i64 0, .int .i64 0, .int .i64 0]) 3 24 Try.underlying56 hi hz0 hz1 hz2 rfl _ 0 [] (by rfl) hs.head _ k _ (by rfl) (own_src (f := sbC) (fun _ => rfl) sb_one (hs.at 3 rfl) Try.underlying56 0 k _ (by omega) (by omega)) (by unfold maxLen; omega) (by omega) (Nat.zero_le _) ?_
              intro v' W hown' hgrow hat
              have hown2 : W.ownsRow 0 88 3 v' k (flat sbC (h.ss.take k)) := by simpa using hown'
              obtain ⟨A10, c10, rfl⟩ := own_form hown2
              replace hs := hs.grown hgrow hown2 hat
              clear hown' hown2 hgrow hat
              try clear hHeld
              refine hK.out _ _ (by (try dsimp only); all_goals trivial) (fun hHeld => ?_)
              clear hK K
              try simp only [Act.put, List.getElem_toArray, List.getElem_cons_zero, List.getElem_cons_succ, List.setIfInBounds_toArray, List.set_cons_zero, List.set_cons_succ]
              refine wpAnyH_ready (rs := [16]) (by kernel_rfl) (by simp) ?_
              refine (AllReadyH.cons (o := _) rfl (fun K hK => ?_) AllReadyH.nil)
              refine step_append_src _ (by rfl) _ _ 56 56 (by rfl) 0 88 i3 (.agg #[.int .i64 0, .int .i64 0, .int .i64 0]) 3 24 Try.underlying56 hi hz0 hz1 hz2 rfl _ k (flat sbC (h.ss.take k)) (by rfl) hs.head _ (h.ss.length - (k + 1)) _ (by rfl) (own_src2 (f := sbC) (fun _ => rfl) sb_one (hs.at 3 rfl) Try.underlying56 (k + 1) _ (by omega) HA3.out) (by unfold maxLen; omega) (by omega) (Nat.zero_le _) ?_
              intro v' W hown' hgrow hat
              have hown2 : W.ownsRow 0 88 3 v' (h.ss.take k ++ h.ss.drop (k + 1)).length (flat sbC (h.ss.take k ++ h.ss.drop (k + 1))) := by rw [flat_append]; rw [show (h.ss.take k ++ h.ss.drop (k + 1)).length = k + (h.ss.length - (k + 1)) by rw [List.length_append, List.length_take, List.length_drop]; omega]; exact hown'
              obtain ⟨A11, c11, rfl⟩ := own_form hown2
              obtain ⟨n11, hn11⟩ : ∃ n11, n11 = (h.ss.take k ++ h.ss.drop (k + 1)).length := ⟨_, rfl⟩
              replace hs := hs.grown hgrow hown2 hat
              rw [← hn11] at hs ⊢
              have HN11 := Lib.hid hn11
              clear hown' hown2 hgrow hat hn11
              try clear hHeld
              refine hK.out _ _ (by (try dsimp only); all_goals trivial) (fun hHeld => ?_)
              clear hK K
              try simp only [Act.put, List.getElem_toArray, List.getElem_cons_zero, List.getElem_cons_succ, List.setIfInBounds_toArray, List.set_cons_zero, List.set_cons_succ]
              refine wpAnyH_take (i := 17) (oi := _) (v := ?_) rfl (by kernel_rfl) (by kernel_rfl) (by kernel_rfl) (fun _ _ _ h => h) (Or.inl ⟨by rfl, ?_⟩) (by assumption) ?_
              rotate_left
              · (intro w hSw; (try dsimp only at hSw); go_simp; try with_reducible rfl)
              try simp only [Act.put, List.getElem_toArray, List.getElem_cons_zero, List.getElem_cons_succ, List.setIfInBounds_toArray, List.set_cons_zero, List.set_cons_succ]
              refine wpAnyH_take (i := 18) (oi := _) (v := ?_) rfl (by kernel_rfl) (by kernel_rfl) (by kernel_rfl) (fun _ _ _ h => h) (Or.inl ⟨by rfl, ?_⟩) (by assumption) ?_
              rotate_left
              · (intro w hSw; (try dsimp only at hSw); go_simp; try with_reducible rfl)
              try simp only [Act.put, List.getElem_toArray, List.getElem_cons_zero, List.getElem_cons_succ, List.setIfInBounds_toArray, List.set_cons_zero, List.set_cons_succ]
              refine wpAnyH_ready (rs := [19]) (by kernel_rfl) (by simp) ?_
              refine (AllReadyH.cons (o := _) rfl (fun K hK => ?_) AllReadyH.nil)
              obtain ⟨hcQ, hfQ, hlQ⟩ := Blk.all (show Blk W p 71 _ from hs.at 4 rfl)
              go_simp
              replace hs := hs.set4 2 (.slice A11 n11 c11)
              try clear hHeld
              refine hK.out _ _ (by (try dsimp only); all_goals trivial) (fun hHeld => ?_)
              clear hK K
              try simp only [Act.put, List.getElem_toArray, List.getElem_cons_zero, List.getElem_cons_succ, List.setIfInBounds_toArray, List.set_cons_zero, List.set_cons_succ]
              clear hcQ hfQ hlQ
              refine wpAnyH_done (by kernel_rfl) ?_ _
              generalize World.setCell _ _ _ = W at hs ⊢
              replace hs := hs.swap3.drop
              have HS := Lib.hid hs
              clear hs
              go_wp2
              go_returns
              refine Ret.mk (.refl I) HS.out ⟨rfl, ⟨by rw [HE.out]; rfl, _, _, _, by rw [HE.out]; unfold houR; dsimp only; rw [← HN11.out]; rfl⟩⟩
    · have hk' : k = h.ss.length := by omega
      have hk2 : (h.ss.length : Int) ≤ k := by omega
      have hf : h.ss.filter (fun s => !(s.member == id && s.track == track)) = h.ss := List.filter_eq_self.2 (fun x hx => by
        obtain ⟨j, hj, rfl⟩ := List.getElem_of_mem hx
        rw [hh.out j hj (by omega)]; rfl)
      have hE : unsubS h id track = (h, 7) := by
        unfold unsubS
        rw [if_pos (by rw [hf])]
      have HE := Lib.hid hE
      clear hlt hk' hf hE hh
      go_wp2
      go_returns
      refine Ret.mk (.refl I) H2.out ⟨rfl, ⟨by rw [HE.out]; rfl, _, _, _, by rw [HE.out]⟩⟩
end Go.Proofs.Ytbaobonlolbnpaa
