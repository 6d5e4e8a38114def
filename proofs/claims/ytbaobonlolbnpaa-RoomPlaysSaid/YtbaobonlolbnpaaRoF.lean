/- slices.DeleteFunc (by wip/room/gen.py) -/
import Derived.Test.YtbaobonlolbnpaaRoE
namespace Go.Proofs.Ytbaobonlolbnpaa
open Go.RowKit
set_option linter.unusedSimpArgs false

theorem del_start {α : Type} (f : α → List Value) {p : α → Bool} {l : List α} {i : Nat} (hi : i < l.length) (hp : p l[i] = true) (hno : ∀ j (hj : j < l.length), j < i → p l[j] = false) :
    (l.take (i + 1)).filter (fun x => !p x) = l.take i ∧ flat f (l.take i) ++ f l[i] ++ flat f (l.drop (i + 1)) = flat f l := by
  constructor
  · rw [List.take_succ_eq_append_getElem hi, List.filter_append]
    have h1 : (l.take i).filter (fun x => !p x) = l.take i := by
      rw [List.filter_eq_self]
      intro x hx
      obtain ⟨j, hj, rfl⟩ := List.getElem_of_mem hx
      rw [List.length_take] at hj
      rw [List.getElem_take, hno j (by omega) (by omega)]
      rfl
    rw [h1]
    simp [hp]
  · have h2 : f l[i] ++ flat f (l.drop (i + 1)) = flat f (l.drop i) := by
      rw [List.drop_eq_getElem_cons hi]
      rfl
    rw [List.append_assoc, h2, ← flat_append, List.take_append_drop]
theorem seg_at {α : Type} {f : α → List Value} {s : Nat} {A R : List Value} {l : List α} {j t : Nat} (hs : ∀ x, (f x).length = s) (hA : A.length = j * s) (hj : j < l.length) (ht : t < s) : (A ++ (flat f (l.drop j) ++ R)).toArray[j * s + t]? = (f l[j])[t]? := by
  rw [List.getElem?_toArray, List.getElem?_append_right (by omega), hA, Nat.add_sub_cancel_left, List.drop_eq_getElem_cons hj]
  simp only [flat, List.append_assoc]
  rw [List.getElem?_append_left (by rw [hs]; exact ht)]

theorem del_skip {α : Type} (f : α → List Value) {p : α → Bool} {X R : List Value} {l : List α} {j : Nat} (hj : j < l.length) (hp : p l[j] = true) :
    (l.take (j + 1)).filter (fun x => !p x) = (l.take j).filter (fun x => !p x) ∧ flat f ((l.take j).filter (fun x => !p x)) ++ X ++ (flat f (l.drop j) ++ R) = flat f ((l.take (j + 1)).filter (fun x => !p x)) ++ (X ++ f l[j]) ++ (flat f (l.drop (j + 1)) ++ R) := by
  have h1 : (l.take (j + 1)).filter (fun x => !p x) = (l.take j).filter (fun x => !p x) := by
    rw [List.take_succ_eq_append_getElem hj, List.filter_append]
    simp [hp]
  refine ⟨h1, ?_⟩
  rw [h1, List.drop_eq_getElem_cons hj]
  simp only [flat, List.append_assoc]
theorem del_keep {α : Type} (f : α → List Value) {s n : Nat} {p : α → Bool} {X R : List Value} {l : List α} {j : Nat} (hs : ∀ x, (f x).length = s) (hj : j < l.length) (hnj : n < j) (hn : n = ((l.take j).filter (fun x => !p x)).length) (hX : X.length = (j - n) * s) (hp : p l[j] = false) :
    (l.take (j + 1)).filter (fun x => !p x) = (l.take j).filter (fun x => !p x) ++ [l[j]] ∧
    (flat f ((l.take j).filter (fun x => !p x)) ++ X ++ (flat f (l.drop j) ++ R)).take (n * s) ++ f l[j] ++ (flat f ((l.take j).filter (fun x => !p x)) ++ X ++ (flat f (l.drop j) ++ R)).drop (n * s + s) = flat f ((l.take (j + 1)).filter (fun x => !p x)) ++ (X.drop s ++ f l[j]) ++ (flat f (l.drop (j + 1)) ++ R) := by
  have h1 : (l.take (j + 1)).filter (fun x => !p x) = (l.take j).filter (fun x => !p x) ++ [l[j]] := by
    rw [List.take_succ_eq_append_getElem hj, List.filter_append]
    simp [hp]
  refine ⟨h1, ?_⟩
  have hF : (flat f ((l.take j).filter (fun x => !p x))).length = n * s := by rw [flat_len hs, ← hn]
  have hXs : s ≤ X.length := by
    rw [hX]
    have := Nat.mul_le_mul_right s (show 1 ≤ j - n by omega)
    omega
  rw [h1, flat_append]
  simp only [List.append_assoc]
  rw [List.take_left' hF, ← List.drop_drop, List.drop_left' hF, List.drop_append_of_le_length hXs]
  rw [show flat f (l.drop j) = f l[j] ++ flat f (l.drop (j + 1)) by rw [List.drop_eq_getElem_cons hj]; rfl]
  simp only [flat, List.append_assoc, List.nil_append]
theorem si49 : (Try.prog.info? 49).map (·.size) = some 3 := by kernel_rfl
theorem si47 : (Try.prog.info? 47).map (·.size) = some 4 := by kernel_rfl
theorem si73 : (Try.prog.info? 73).map (·.size) = some 5 := by kernel_rfl
theorem zr49 (w : World) : (zeroValue 49).run Try.prog w = .ok (.agg #[.int .i64 0, .int .i64 0, .int .i64 0]) w := by kernel_rfl
theorem zr47 (w : World) : (zeroValue 47).run Try.prog w = .ok (.agg #[.int .i64 0, .int .i64 0, .string ⟨#[]⟩, .int .i64 0]) w := by kernel_rfl
theorem zr73 (w : World) : (zeroValue 73).run Try.prog w = .ok (.agg #[.int .i64 0, .string ⟨#[]⟩, .string ⟨#[]⟩, .int .i64 0, .int .i64 0]) w := by kernel_rfl

set_option maxRecDepth 8000 in
set_option maxHeartbeats 4000000 in
theorem delSC (I : Img) (M : List Res) (w : World) (A : Option Addr) (c k : Nat) (cap : Array Value) (l : List Sb) (p : Sb → Bool) (eg : ∀ args w, (callFunc k args).run Try.prog w = .ok (.enter k args) w)
    (hp : ∀ (g : Nat) (cur : Array Value) (W : World), St I (bk g 49 cur :: M) W → ∀ x ∈ l, Calls Try.prog k (#[.agg #[.int .i64 x.member, .int .i64 x.track, .int .i64 x.layer]] ++ cap) W (fun e w' => e = .returned (.bool (p x)) ∧ Below W.heap.size W w'))
    (hst : St I (row 49 3 (.slice A l.length c) l.length (flat sbC l) :: M) w) (hl : l.length ≤ 1000000) :
    Calls Try.prog 35 #[.slice A l.length c, .func (.func k) #[] cap] w (Ret I (fun v J M' => I = J ∧ v = .slice A (l.filter (fun x => !p x)).length c ∧ M' = row 49 3 (.slice A (l.filter (fun x => !p x)).length c) (l.filter (fun x => !p x)).length (flat sbC (l.filter (fun x => !p x))) :: M)) := by
  by_cases h0 : l = []
  · subst h0
    have HST := Lib.hid hst
    clear hst hp eg
    go_enter Try.func35, Try.ntmps35
    go_wp2_with (go_at_call 53; refine (idxS0 _ A c _).mono ?_; rintro e w2 ⟨rfl, hw2⟩; subst w2)
    go_returns
    exact Ret.mk (.refl I) HST.out ⟨rfl, rfl, rfl⟩
  have hpos : 0 < l.length := List.length_pos_iff.2 h0
  obtain ⟨g, cur, rfl, _, hlc, hcm, hcs, hct, hs⟩ := hst.rowBk (by rw [flat_len (s := 3) (fun _ => rfl)]; omega)
  have hix := idxSC I M w g c k cur cap l p eg (fun cur W h x hx => hp g cur W h x hx) hs hct hl
  have HP := Lib.hid hp
  have EG := Lib.hid eg
  have HC := Lib.hid (And.intro hcs hct)
  clear hst hp eg hs hcs hct h0
  rcases idx_ways p l with ⟨e, hall⟩ | ⟨i, hi, e, hpi, hno⟩
  · rw [e] at hix
    have HF := Lib.hid (show l.filter (fun x => !p x) = l from List.filter_eq_self.2 (fun x hx => by rw [hall x hx]; rfl))
    clear e hall
    go_enter Try.func35, Try.ntmps35
    go_wp2_with (go_at_call 53; refine hix.mono ?_; clear hix; rintro e w2 ⟨rfl, hs2⟩; have HS2 := Lib.hid hs2; clear hs2)
    go_returns
    rw [HF.out]
    exact Ret.mk (.refl I) (HS2.out.bkRow hlc hcm HC.out.1 HC.out.2) ⟨rfl, rfl, rfl⟩
  · rw [e] at hix
    have HI := Lib.hid (And.intro hpi hno)
    have hi1 : ((i : Int) == -1) = false := by simp
    clear e hpi hno
    go_enter Try.func35, Try.ntmps35
    go_wp2_with (go_at_call 53; refine hix.mono ?_; clear hix; rintro e w2 ⟨rfl, hs2⟩; have HS2 := Lib.hid hs2; clear hs2)
    obtain ⟨R, hR⟩ : ∃ R, R = cur.toList.drop (l.length * 3) := ⟨_, rfl⟩
    have HR := Lib.hid hR
    clear hR hi1
    go_loopw [5, 6] (fun iv jv wr => ∃ (j n : Nat) (X : List Value), n < j ∧ j ≤ l.length ∧ iv = .int .i64 n ∧ jv = .int .i64 j ∧ Hid (n = ((l.take j).filter (fun x => !p x)).length ∧ X.length = (j - n) * 3 ∧ (flat sbC ((l.take j).filter (fun x => !p x)) ++ X ++ (flat sbC (l.drop j) ++ R)).length = c * 3 ∧ St I (bk g 49 (flat sbC ((l.take j).filter (fun x => !p x)) ++ X ++ (flat sbC (l.drop j) ++ R)).toArray :: M) wr)) (fun _ jv _ => l.length - (intOf jv).toNat)
    case atStart =>
      refine ⟨i + 1, i, sbC l[i], by omega, by omega, rfl, by go_num, ?_⟩
      have hF := del_start sbC hi HI.out.1 HI.out.2
      refine ⟨by rw [hF.1]; simp; omega, by simp, ?_⟩
      have hcur : cur = (flat sbC ((l.take (i + 1)).filter (fun x => !p x)) ++ sbC l[i] ++ (flat sbC (l.drop (i + 1)) ++ R)).toArray := by
        apply Array.toList_inj.1
        rw [List.toList_toArray, hF.1, ← List.append_assoc, hF.2, ← HC.out.2, HR.out, List.take_append_drop]
      rw [← hcur]
      refine ⟨?_, HS2.out⟩
      rw [← HC.out.1, ← Array.length_toList, hcur]
    case round =>
      obtain ⟨j, n, X, hnj, hj, rfl, rfl, hh⟩ := hrel
      obtain ⟨hn, hX, hYl, hs⟩ := hh.out
      have HN := Lib.hid hn
      have HX := Lib.hid hX
      clear hh HS2 hn
      have hPl : (flat sbC ((l.take j).filter (fun x => !p x)) ++ X).length = j * 3 := by
        rw [List.length_append, flat_len (s := 3) (fun _ => rfl), ← HN.out, hX, ← Nat.add_mul]
        congr 1; omega
      by_cases hlt : j < l.length
      · have hcell : ∀ t, t < 3 → wr.cell? ⟨g, j * 3 + t, none⟩ = (sbC l[j])[t]? := fun t ht => (Blk.cell hs.head _).trans (seg_at (f := sbC) (s := 3) (fun _ => rfl) hPl hlt ht)
        have hm := List.getElem_mem hlt
        obtain ⟨x, hx⟩ : ∃ x, x = l[j] := ⟨_, rfl⟩
        rw [← hx] at hcell hm
        have z0 : wr.cell? ⟨g, j * 3, none⟩ = some (.int .i64 x.member) := hcell 0 (by decide)
        have z1 : wr.cell? ⟨g, j * 3 + 1, none⟩ = some (.int .i64 x.track) := hcell 1 (by decide)
        have z2 : wr.cell? ⟨g, j * 3 + 2, none⟩ = some (.int .i64 x.layer) := hcell 2 (by decide)
        have hglt := hs.head.lt
        have hfit : n * 3 + 3 ≤ (flat sbC ((l.take j).filter (fun x => !p x)) ++ X ++ (flat sbC (l.drop j) ++ R)).length := by
          rw [List.length_append, hPl]
          omega
        have hskip := fun h => del_skip sbC (X := X) (R := R) (p := p) hlt h
        have hkeep := fun h => del_keep sbC (s := 3) (X := X) (R := R) (p := p) (fun _ => rfl) hlt hnj HN.out hX h
        rw [← hx] at hskip hkeep
        obtain ⟨Y, hY⟩ : ∃ Y, Y = flat sbC ((l.take j).filter (fun x => !p x)) ++ X ++ (flat sbC (l.drop j) ++ R) := ⟨_, rfl⟩
        rw [← hY] at hs hYl hfit hskip hkeep
        have HK := Lib.hid (And.intro hskip hkeep)
        have HYL := Lib.hid hYl
        have HFIT := Lib.hid (show n * 3 + (#[.int .i64 x.member, .int .i64 x.track, .int .i64 x.layer] : Array Value).size ≤ Y.toArray.size from hfit)
        have hs4 := hs.alloc 49 #[.int .i64 x.member, .int .i64 x.track, .int .i64 x.layer]
        have hpx := HP.out g Y.toArray _ hs4.drop x hm
        obtain ⟨hcT, hfT, hlT⟩ := Blk.all hs4.head
        have eg := EG.out
        have HS4 := Lib.hid hs4
        clear hcell hm hx hs hs4 hY hX hPl hYl hskip hkeep hfit
        cases hb : p x
        · go_wp2_with (first | (go_at_fn k; refine hpx.mono ?_; clear hpx; rintro e w3 ⟨rfl, hb2⟩; have hs5 := HS4.out.below hb2; clear hb2; obtain ⟨hc5, _, hl5⟩ := Blk.all hs5.head; have HS5 := Lib.hid hs5; clear hs5 hcT hfT hlT) | (refine wpList_store_seg rfl 49 (.tmp 33) (.tmp 32) rfl g (n * 3) #[.int .i64 x.member, .int .i64 x.track, .int .i64 x.layer] rfl rfl 49 Y.toArray HS5.out.swap1.head si49 HFIT.out (by simp [Value.oneCell']) ?_; have HS6 := Lib.hid (HS5.out.drop.setSeg (n * 3) [.int .i64 x.member, .int .i64 x.track, .int .i64 x.layer]); clear hc5 hl5))
          go_roundw
          case rel =>
            have h1 := HK.out.2 hb
            have h2 := HS6.out
            refine ⟨j + 1, n + 1, X.drop 3 ++ sbC x, by omega, by omega, by go_num, by go_num, by rw [h1.1, List.length_append, ← HN.out]; rfl, ?_, ?_, ?_⟩
            · rw [List.length_append, List.length_drop, HX.out, show j + 1 - (n + 1) = j - n by omega]
              have := Nat.mul_le_mul_right 3 (show 1 ≤ j - n by omega)
              show (j - n) * 3 - 3 + 3 = _
              omega
            · rw [← h1.2, List.length_append, List.length_append, List.length_take, List.length_drop, HYL.out]
              have := HFIT.out
              show min (n * 3) (c * 3) + 3 + (c * 3 - (n * 3 + 3)) = _
              have h3 : n * 3 + 3 ≤ Y.length := this
              rw [HYL.out] at h3
              omega
            · rw [← h1.2]
              simpa [sbC] using h2
          case measure => simp [intOf]; omega
        · go_wp2_with (go_at_fn k; refine hpx.mono ?_; clear hpx; rintro e w3 ⟨rfl, hb2⟩; have HS5 := Lib.hid (HS4.out.drop.below hb2); clear hb2 hcT hfT hlT)
          go_roundw
          case rel =>
            have h1 := HK.out.1 hb
            refine ⟨j + 1, n, X ++ sbC x, by omega, by omega, rfl, by go_num, by rw [h1.1]; exact HN.out, by rw [List.length_append, HX.out, show j + 1 - n = j - n + 1 by omega, Nat.add_mul]; rfl, by rw [← h1.2]; exact HYL.out, by rw [← h1.2]; exact HS5.out⟩
          case measure => simp [intOf]; omega
      · have hjl : j = l.length := by omega
        subst hjl
        have hk2 : (l.length : Int) ≤ l.length := by omega
        rw [List.drop_length, List.take_length, flat, List.nil_append] at hYl hs
        rw [List.take_length] at HN hPl
        obtain ⟨Y, hY⟩ : ∃ Y, Y = flat sbC (l.filter (fun x => !p x)) ++ X ++ R := ⟨_, rfl⟩
        have HF := Lib.hid (show Y.take (n * 3) = flat sbC (l.filter (fun x => !p x)) by
          rw [hY, List.append_assoc, List.take_left' (by rw [flat_len (s := 3) (fun _ => rfl), HN.out])])
        rw [← hY] at hs hYl
        have hglt := hs.head.lt
        have HYL := Lib.hid hYl
        have HS5 := Lib.hid hs
        have hfit : n * 3 + (l.length - n) * (Value.agg #[.int .i64 0, .int .i64 0, .int .i64 0]).cells.size ≤ Y.toArray.size := by
          show n * 3 + (l.length - n) * 3 ≤ Y.length
          rw [hYl, ← Nat.add_mul]
          exact Nat.mul_le_mul_right _ (by omega)
        obtain ⟨zs, hzs⟩ : ∃ zs, zs = (Builtin.zeroCells (Value.agg #[.int .i64 0, .int .i64 0, .int .i64 0]).cells (l.length - n)).toList := ⟨_, rfl⟩
        have hcl : ∀ ty, (Builtin.clear_ #[44] ty #[.slice (some ⟨g, n * 3, none⟩) (l.length - n) (c - n)]).run Try.prog wr = _ := fun ty => run_clear_row (P := Try.prog) (w := wr) 44 49 ty (.agg #[.int .i64 0, .int .i64 0, .int .i64 0]) Try.underlying44 zr49 g (n * 3) (l.length - n) (c - n) 49 Y.toArray hs.head hfit (by simp [Value.cells, Value.oneCell']) (by decide) zs hzs
        have hzl : zs.length = (l.length - n) * 3 := by rw [hzs]; simp [Builtin.zeroCells, Value.cells]
        have hs6 := hs.setSeg (n * 3) zs
        have hZ2 : (Y.toArray.toList.take (n * 3) ++ zs ++ Y.toArray.toList.drop (n * 3 + zs.length)).toArray.size = c * 3 := by
          have h3 : n * 3 + (l.length - n) * 3 ≤ Y.length := hfit
          simp only [List.size_toArray, List.length_append, List.length_take, List.length_drop, List.toList_toArray, hzl]
          omega
        have hZ3 : (Y.toArray.toList.take (n * 3) ++ zs ++ Y.toArray.toList.drop (n * 3 + zs.length)).toArray.toList.take (n * 3) = flat sbC (l.filter (fun x => !p x)) := by
          have h3 : n * 3 + (l.length - n) * 3 ≤ Y.length := hfit
          rw [← HF.out]
          simp only [List.toList_toArray, List.append_assoc]
          exact List.take_left' (by rw [List.length_take]; omega)
        generalize (Y.toArray.toList.take (n * 3) ++ zs ++ Y.toArray.toList.drop (n * 3 + zs.length)).toArray = Z at hcl hs6 hZ2 hZ3
        have hn2 : n ≤ c := by omega
        have HS6 := Lib.hid (hs6.bkRow (n := n) (c := c) hn2 hcm hZ2 hZ3)
        have hcn : ¬ (c = n) := by omega
        clear hlt hs hY hYl hPl hX hfit hzs hzl hs6 hZ2 hZ3
        go_wp2
        go_returns
        rw [← HN.out]
        exact Ret.mk (.refl I) HS6.out ⟨rfl, rfl, rfl⟩
set_option maxRecDepth 8000 in
set_option maxHeartbeats 4000000 in
theorem delTC (I : Img) (M : List Res) (w : World) (A : Option Addr) (c k : Nat) (cap : Array Value) (l : List Trk) (p : Trk → Bool) (eg : ∀ args w, (callFunc k args).run Try.prog w = .ok (.enter k args) w)
    (hp : ∀ (g : Nat) (cur : Array Value) (W : World), St I (bk g 47 cur :: M) W → ∀ x ∈ l, Calls Try.prog k (#[.agg #[.int .i64 x.id, .int .i64 x.member, .string x.mid, .int .i64 x.kind]] ++ cap) W (fun e w' => e = .returned (.bool (p x)) ∧ Below W.heap.size W w'))
    (hst : St I (row 47 4 (.slice A l.length c) l.length (flat trkC l) :: M) w) (hl : l.length ≤ 1000000) :
    Calls Try.prog 38 #[.slice A l.length c, .func (.func k) #[] cap] w (Ret I (fun v J M' => I = J ∧ v = .slice A (l.filter (fun x => !p x)).length c ∧ M' = row 47 4 (.slice A (l.filter (fun x => !p x)).length c) (l.filter (fun x => !p x)).length (flat trkC (l.filter (fun x => !p x))) :: M)) := by
  by_cases h0 : l = []
  · subst h0
    have HST := Lib.hid hst
    clear hst hp eg
    go_enter Try.func38, Try.ntmps38
    go_wp2_with (go_at_call 54; refine (idxT0 _ A c _).mono ?_; rintro e w2 ⟨rfl, hw2⟩; subst w2)
    go_returns
    exact Ret.mk (.refl I) HST.out ⟨rfl, rfl, rfl⟩
  have hpos : 0 < l.length := List.length_pos_iff.2 h0
  obtain ⟨g, cur, rfl, _, hlc, hcm, hcs, hct, hs⟩ := hst.rowBk (by rw [flat_len (s := 4) (fun _ => rfl)]; omega)
  have hix := idxTC I M w g c k cur cap l p eg (fun cur W h x hx => hp g cur W h x hx) hs hct hl
  have HP := Lib.hid hp
  have EG := Lib.hid eg
  have HC := Lib.hid (And.intro hcs hct)
  clear hst hp eg hs hcs hct h0
  rcases idx_ways p l with ⟨e, hall⟩ | ⟨i, hi, e, hpi, hno⟩
  · rw [e] at hix
    have HF := Lib.hid (show l.filter (fun x => !p x) = l from List.filter_eq_self.2 (fun x hx => by rw [hall x hx]; rfl))
    clear e hall
    go_enter Try.func38, Try.ntmps38
    go_wp2_with (go_at_call 54; refine hix.mono ?_; clear hix; rintro e w2 ⟨rfl, hs2⟩; have HS2 := Lib.hid hs2; clear hs2)
    go_returns
    rw [HF.out]
    exact Ret.mk (.refl I) (HS2.out.bkRow hlc hcm HC.out.1 HC.out.2) ⟨rfl, rfl, rfl⟩
  · rw [e] at hix
    have HI := Lib.hid (And.intro hpi hno)
    have hi1 : ((i : Int) == -1) = false := by simp
    clear e hpi hno
    go_enter Try.func38, Try.ntmps38
    go_wp2_with (go_at_call 54; refine hix.mono ?_; clear hix; rintro e w2 ⟨rfl, hs2⟩; have HS2 := Lib.hid hs2; clear hs2)
    obtain ⟨R, hR⟩ : ∃ R, R = cur.toList.drop (l.length * 4) := ⟨_, rfl⟩
    have HR := Lib.hid hR
    clear hR hi1
    go_loopw [5, 6] (fun iv jv wr => ∃ (j n : Nat) (X : List Value), n < j ∧ j ≤ l.length ∧ iv = .int .i64 n ∧ jv = .int .i64 j ∧ Hid (n = ((l.take j).filter (fun x => !p x)).length ∧ X.length = (j - n) * 4 ∧ (flat trkC ((l.take j).filter (fun x => !p x)) ++ X ++ (flat trkC (l.drop j) ++ R)).length = c * 4 ∧ St I (bk g 47 (flat trkC ((l.take j).filter (fun x => !p x)) ++ X ++ (flat trkC (l.drop j) ++ R)).toArray :: M) wr)) (fun _ jv _ => l.length - (intOf jv).toNat)
    case atStart =>
      refine ⟨i + 1, i, trkC l[i], by omega, by omega, rfl, by go_num, ?_⟩
      have hF := del_start trkC hi HI.out.1 HI.out.2
      refine ⟨by rw [hF.1]; simp; omega, by simp, ?_⟩
      have hcur : cur = (flat trkC ((l.take (i + 1)).filter (fun x => !p x)) ++ trkC l[i] ++ (flat trkC (l.drop (i + 1)) ++ R)).toArray := by
        apply Array.toList_inj.1
        rw [List.toList_toArray, hF.1, ← List.append_assoc, hF.2, ← HC.out.2, HR.out, List.take_append_drop]
      rw [← hcur]
      refine ⟨?_, HS2.out⟩
      rw [← HC.out.1, ← Array.length_toList, hcur]
    case round =>
      obtain ⟨j, n, X, hnj, hj, rfl, rfl, hh⟩ := hrel
      obtain ⟨hn, hX, hYl, hs⟩ := hh.out
      have HN := Lib.hid hn
      have HX := Lib.hid hX
      clear hh HS2 hn
      have hPl : (flat trkC ((l.take j).filter (fun x => !p x)) ++ X).length = j * 4 := by
        rw [List.length_append, flat_len (s := 4) (fun _ => rfl), ← HN.out, hX, ← Nat.add_mul]
        congr 1; omega
      by_cases hlt : j < l.length
      · have hcell : ∀ t, t < 4 → wr.cell? ⟨g, j * 4 + t, none⟩ = (trkC l[j])[t]? := fun t ht => (Blk.cell hs.head _).trans (seg_at (f := trkC) (s := 4) (fun _ => rfl) hPl hlt ht)
        have hm := List.getElem_mem hlt
        obtain ⟨x, hx⟩ : ∃ x, x = l[j] := ⟨_, rfl⟩
        rw [← hx] at hcell hm
        have z0 : wr.cell? ⟨g, j * 4, none⟩ = some (.int .i64 x.id) := hcell 0 (by decide)
        have z1 : wr.cell? ⟨g, j * 4 + 1, none⟩ = some (.int .i64 x.member) := hcell 1 (by decide)
        have z2 : wr.cell? ⟨g, j * 4 + 2, none⟩ = some (.string x.mid) := hcell 2 (by decide)
        have z3 : wr.cell? ⟨g, j * 4 + 3, none⟩ = some (.int .i64 x.kind) := hcell 3 (by decide)
        have hglt := hs.head.lt
        have hfit : n * 4 + 4 ≤ (flat trkC ((l.take j).filter (fun x => !p x)) ++ X ++ (flat trkC (l.drop j) ++ R)).length := by
          rw [List.length_append, hPl]
          omega
        have hskip := fun h => del_skip trkC (X := X) (R := R) (p := p) hlt h
        have hkeep := fun h => del_keep trkC (s := 4) (X := X) (R := R) (p := p) (fun _ => rfl) hlt hnj HN.out hX h
        rw [← hx] at hskip hkeep
        obtain ⟨Y, hY⟩ : ∃ Y, Y = flat trkC ((l.take j).filter (fun x => !p x)) ++ X ++ (flat trkC (l.drop j) ++ R) := ⟨_, rfl⟩
        rw [← hY] at hs hYl hfit hskip hkeep
        have HK := Lib.hid (And.intro hskip hkeep)
        have HYL := Lib.hid hYl
        have HFIT := Lib.hid (show n * 4 + (#[.int .i64 x.id, .int .i64 x.member, .string x.mid, .int .i64 x.kind] : Array Value).size ≤ Y.toArray.size from hfit)
        have hs4 := hs.alloc 47 #[.int .i64 x.id, .int .i64 x.member, .string x.mid, .int .i64 x.kind]
        have hpx := HP.out g Y.toArray _ hs4.drop x hm
        obtain ⟨hcT, hfT, hlT⟩ := Blk.all hs4.head
        have eg := EG.out
        have HS4 := Lib.hid hs4
        clear hcell hm hx hs hs4 hY hX hPl hYl hskip hkeep hfit
        cases hb : p x
        · go_wp2_with (first | (go_at_fn k; refine hpx.mono ?_; clear hpx; rintro e w3 ⟨rfl, hb2⟩; have hs5 := HS4.out.below hb2; clear hb2; obtain ⟨hc5, _, hl5⟩ := Blk.all hs5.head; have HS5 := Lib.hid hs5; clear hs5 hcT hfT hlT) | (refine wpList_store_seg rfl 47 (.tmp 33) (.tmp 32) rfl g (n * 4) #[.int .i64 x.id, .int .i64 x.member, .string x.mid, .int .i64 x.kind] rfl rfl 47 Y.toArray HS5.out.swap1.head si47 HFIT.out (by simp [Value.oneCell']) ?_; have HS6 := Lib.hid (HS5.out.drop.setSeg (n * 4) [.int .i64 x.id, .int .i64 x.member, .string x.mid, .int .i64 x.kind]); clear hc5 hl5))
          go_roundw
          case rel =>
            have h1 := HK.out.2 hb
            have h2 := HS6.out
            refine ⟨j + 1, n + 1, X.drop 4 ++ trkC x, by omega, by omega, by go_num, by go_num, by rw [h1.1, List.length_append, ← HN.out]; rfl, ?_, ?_, ?_⟩
            · rw [List.length_append, List.length_drop, HX.out, show j + 1 - (n + 1) = j - n by omega]
              have := Nat.mul_le_mul_right 4 (show 1 ≤ j - n by omega)
              show (j - n) * 4 - 4 + 4 = _
              omega
            · rw [← h1.2, List.length_append, List.length_append, List.length_take, List.length_drop, HYL.out]
              have := HFIT.out
              show min (n * 4) (c * 4) + 4 + (c * 4 - (n * 4 + 4)) = _
              have h3 : n * 4 + 4 ≤ Y.length := this
              rw [HYL.out] at h3
              omega
            · rw [← h1.2]
              simpa [trkC] using h2
          case measure => simp [intOf]; omega
        · go_wp2_with (go_at_fn k; refine hpx.mono ?_; clear hpx; rintro e w3 ⟨rfl, hb2⟩; have HS5 := Lib.hid (HS4.out.drop.below hb2); clear hb2 hcT hfT hlT)
          go_roundw
          case rel =>
            have h1 := HK.out.1 hb
            refine ⟨j + 1, n, X ++ trkC x, by omega, by omega, rfl, by go_num, by rw [h1.1]; exact HN.out, by rw [List.length_append, HX.out, show j + 1 - n = j - n + 1 by omega, Nat.add_mul]; rfl, by rw [← h1.2]; exact HYL.out, by rw [← h1.2]; exact HS5.out⟩
          case measure => simp [intOf]; omega
      · have hjl : j = l.length := by omega
        subst hjl
        have hk2 : (l.length : Int) ≤ l.length := by omega
        rw [List.drop_length, List.take_length, flat, List.nil_append] at hYl hs
        rw [List.take_length] at HN hPl
        obtain ⟨Y, hY⟩ : ∃ Y, Y = flat trkC (l.filter (fun x => !p x)) ++ X ++ R := ⟨_, rfl⟩
        have HF := Lib.hid (show Y.take (n * 4) = flat trkC (l.filter (fun x => !p x)) by
          rw [hY, List.append_assoc, List.take_left' (by rw [flat_len (s := 4) (fun _ => rfl), HN.out])])
        rw [← hY] at hs hYl
        have hglt := hs.head.lt
        have HYL := Lib.hid hYl
        have HS5 := Lib.hid hs
        have hfit : n * 4 + (l.length - n) * (Value.agg #[.int .i64 0, .int .i64 0, .string ⟨#[]⟩, .int .i64 0]).cells.size ≤ Y.toArray.size := by
          show n * 4 + (l.length - n) * 4 ≤ Y.length
          rw [hYl, ← Nat.add_mul]
          exact Nat.mul_le_mul_right _ (by omega)
        obtain ⟨zs, hzs⟩ : ∃ zs, zs = (Builtin.zeroCells (Value.agg #[.int .i64 0, .int .i64 0, .string ⟨#[]⟩, .int .i64 0]).cells (l.length - n)).toList := ⟨_, rfl⟩
        have hcl : ∀ ty, (Builtin.clear_ #[36] ty #[.slice (some ⟨g, n * 4, none⟩) (l.length - n) (c - n)]).run Try.prog wr = _ := fun ty => run_clear_row (P := Try.prog) (w := wr) 36 47 ty (.agg #[.int .i64 0, .int .i64 0, .string ⟨#[]⟩, .int .i64 0]) Try.underlying36 zr47 g (n * 4) (l.length - n) (c - n) 47 Y.toArray hs.head hfit (by simp [Value.cells, Value.oneCell']) (by decide) zs hzs
        have hzl : zs.length = (l.length - n) * 4 := by rw [hzs]; simp [Builtin.zeroCells, Value.cells]
        have hs6 := hs.setSeg (n * 4) zs
        have hZ2 : (Y.toArray.toList.take (n * 4) ++ zs ++ Y.toArray.toList.drop (n * 4 + zs.length)).toArray.size = c * 4 := by
          have h3 : n * 4 + (l.length - n) * 4 ≤ Y.length := hfit
          simp only [List.size_toArray, List.length_append, List.length_take, List.length_drop, List.toList_toArray, hzl]
          omega
        have hZ3 : (Y.toArray.toList.take (n * 4) ++ zs ++ Y.toArray.toList.drop (n * 4 + zs.length)).toArray.toList.take (n * 4) = flat trkC (l.filter (fun x => !p x)) := by
          have h3 : n * 4 + (l.length - n) * 4 ≤ Y.length := hfit
          rw [← HF.out]
          simp only [List.toList_toArray, List.append_assoc]
          exact List.take_left' (by rw [List.length_take]; omega)
        generalize (Y.toArray.toList.take (n * 4) ++ zs ++ Y.toArray.toList.drop (n * 4 + zs.length)).toArray = Z at hcl hs6 hZ2 hZ3
        have hn2 : n ≤ c := by omega
        have HS6 := Lib.hid (hs6.bkRow (n := n) (c := c) hn2 hcm hZ2 hZ3)
        have hcn : ¬ (c = n) := by omega
        clear hlt hs hY hYl hPl hX hfit hzs hzl hs6 hZ2 hZ3
        go_wp2
        go_returns
        rw [← HN.out]
        exact Ret.mk (.refl I) HS6.out ⟨rfl, rfl, rfl⟩
set_option maxRecDepth 8000 in
set_option maxHeartbeats 4000000 in
theorem delMC (I : Img) (M : List Res) (w : World) (A : Option Addr) (c k : Nat) (cap : Array Value) (l : List Mem) (p : Mem → Bool) (eg : ∀ args w, (callFunc k args).run Try.prog w = .ok (.enter k args) w)
    (hp : ∀ (g : Nat) (cur : Array Value) (W : World), St I (bk g 73 cur :: M) W → ∀ x ∈ l, Calls Try.prog k (#[.agg #[.int .i64 x.id, .string x.room, .string x.user, .int .i64 x.til, .int .i64 x.rights]] ++ cap) W (fun e w' => e = .returned (.bool (p x)) ∧ Below W.heap.size W w'))
    (hst : St I (row 73 5 (.slice A l.length c) l.length (flat memC l) :: M) w) (hl : l.length ≤ 1000000) :
    Calls Try.prog 40 #[.slice A l.length c, .func (.func k) #[] cap] w (Ret I (fun v J M' => I = J ∧ v = .slice A (l.filter (fun x => !p x)).length c ∧ M' = row 73 5 (.slice A (l.filter (fun x => !p x)).length c) (l.filter (fun x => !p x)).length (flat memC (l.filter (fun x => !p x))) :: M)) := by
  by_cases h0 : l = []
  · subst h0
    have HST := Lib.hid hst
    clear hst hp eg
    go_enter Try.func40, Try.ntmps40
    go_wp2_with (go_at_call 55; refine (idxM0 _ A c _).mono ?_; rintro e w2 ⟨rfl, hw2⟩; subst w2)
    go_returns
    exact Ret.mk (.refl I) HST.out ⟨rfl, rfl, rfl⟩
  have hpos : 0 < l.length := List.length_pos_iff.2 h0
  obtain ⟨g, cur, rfl, _, hlc, hcm, hcs, hct, hs⟩ := hst.rowBk (by rw [flat_len (s := 5) (fun _ => rfl)]; omega)
  have hix := idxMC I M w g c k cur cap l p eg (fun cur W h x hx => hp g cur W h x hx) hs hct hl
  have HP := Lib.hid hp
  have EG := Lib.hid eg
  have HC := Lib.hid (And.intro hcs hct)
  clear hst hp eg hs hcs hct h0
  rcases idx_ways p l with ⟨e, hall⟩ | ⟨i, hi, e, hpi, hno⟩
  · rw [e] at hix
    have HF := Lib.hid (show l.filter (fun x => !p x) = l from List.filter_eq_self.2 (fun x hx => by rw [hall x hx]; rfl))
    clear e hall
    go_enter Try.func40, Try.ntmps40
    go_wp2_with (go_at_call 55; refine hix.mono ?_; clear hix; rintro e w2 ⟨rfl, hs2⟩; have HS2 := Lib.hid hs2; clear hs2)
    go_returns
    rw [HF.out]
    exact Ret.mk (.refl I) (HS2.out.bkRow hlc hcm HC.out.1 HC.out.2) ⟨rfl, rfl, rfl⟩
  · rw [e] at hix
    have HI := Lib.hid (And.intro hpi hno)
    have hi1 : ((i : Int) == -1) = false := by simp
    clear e hpi hno
    go_enter Try.func40, Try.ntmps40
    go_wp2_with (go_at_call 55; refine hix.mono ?_; clear hix; rintro e w2 ⟨rfl, hs2⟩; have HS2 := Lib.hid hs2; clear hs2)
    obtain ⟨R, hR⟩ : ∃ R, R = cur.toList.drop (l.length * 5) := ⟨_, rfl⟩
    have HR := Lib.hid hR
    clear hR hi1
    go_loopw [5, 6] (fun iv jv wr => ∃ (j n : Nat) (X : List Value), n < j ∧ j ≤ l.length ∧ iv = .int .i64 n ∧ jv = .int .i64 j ∧ Hid (n = ((l.take j).filter (fun x => !p x)).length ∧ X.length = (j - n) * 5 ∧ (flat memC ((l.take j).filter (fun x => !p x)) ++ X ++ (flat memC (l.drop j) ++ R)).length = c * 5 ∧ St I (bk g 73 (flat memC ((l.take j).filter (fun x => !p x)) ++ X ++ (flat memC (l.drop j) ++ R)).toArray :: M) wr)) (fun _ jv _ => l.length - (intOf jv).toNat)
    case atStart =>
      refine ⟨i + 1, i, memC l[i], by omega, by omega, rfl, by go_num, ?_⟩
      have hF := del_start memC hi HI.out.1 HI.out.2
      refine ⟨by rw [hF.1]; simp; omega, by simp, ?_⟩
      have hcur : cur = (flat memC ((l.take (i + 1)).filter (fun x => !p x)) ++ memC l[i] ++ (flat memC (l.drop (i + 1)) ++ R)).toArray := by
        apply Array.toList_inj.1
        rw [List.toList_toArray, hF.1, ← List.append_assoc, hF.2, ← HC.out.2, HR.out, List.take_append_drop]
      rw [← hcur]
      refine ⟨?_, HS2.out⟩
      rw [← HC.out.1, ← Array.length_toList, hcur]
    case round =>
      obtain ⟨j, n, X, hnj, hj, rfl, rfl, hh⟩ := hrel
      obtain ⟨hn, hX, hYl, hs⟩ := hh.out
      have HN := Lib.hid hn
      have HX := Lib.hid hX
      clear hh HS2 hn
      have hPl : (flat memC ((l.take j).filter (fun x => !p x)) ++ X).length = j * 5 := by
        rw [List.length_append, flat_len (s := 5) (fun _ => rfl), ← HN.out, hX, ← Nat.add_mul]
        congr 1; omega
      by_cases hlt : j < l.length
      · have hcell : ∀ t, t < 5 → wr.cell? ⟨g, j * 5 + t, none⟩ = (memC l[j])[t]? := fun t ht => (Blk.cell hs.head _).trans (seg_at (f := memC) (s := 5) (fun _ => rfl) hPl hlt ht)
        have hm := List.getElem_mem hlt
        obtain ⟨x, hx⟩ : ∃ x, x = l[j] := ⟨_, rfl⟩
        rw [← hx] at hcell hm
        have z0 : wr.cell? ⟨g, j * 5, none⟩ = some (.int .i64 x.id) := hcell 0 (by decide)
        have z1 : wr.cell? ⟨g, j * 5 + 1, none⟩ = some (.string x.room) := hcell 1 (by decide)
        have z2 : wr.cell? ⟨g, j * 5 + 2, none⟩ = some (.string x.user) := hcell 2 (by decide)
        have z3 : wr.cell? ⟨g, j * 5 + 3, none⟩ = some (.int .i64 x.til) := hcell 3 (by decide)
        have z4 : wr.cell? ⟨g, j * 5 + 4, none⟩ = some (.int .i64 x.rights) := hcell 4 (by decide)
        have hglt := hs.head.lt
        have hfit : n * 5 + 5 ≤ (flat memC ((l.take j).filter (fun x => !p x)) ++ X ++ (flat memC (l.drop j) ++ R)).length := by
          rw [List.length_append, hPl]
          omega
        have hskip := fun h => del_skip memC (X := X) (R := R) (p := p) hlt h
        have hkeep := fun h => del_keep memC (s := 5) (X := X) (R := R) (p := p) (fun _ => rfl) hlt hnj HN.out hX h
        rw [← hx] at hskip hkeep
        obtain ⟨Y, hY⟩ : ∃ Y, Y = flat memC ((l.take j).filter (fun x => !p x)) ++ X ++ (flat memC (l.drop j) ++ R) := ⟨_, rfl⟩
        rw [← hY] at hs hYl hfit hskip hkeep
        have HK := Lib.hid (And.intro hskip hkeep)
        have HYL := Lib.hid hYl
        have HFIT := Lib.hid (show n * 5 + (#[.int .i64 x.id, .string x.room, .string x.user, .int .i64 x.til, .int .i64 x.rights] : Array Value).size ≤ Y.toArray.size from hfit)
        have hs4 := hs.alloc 73 #[.int .i64 x.id, .string x.room, .string x.user, .int .i64 x.til, .int .i64 x.rights]
        have hpx := HP.out g Y.toArray _ hs4.drop x hm
        obtain ⟨hcT, hfT, hlT⟩ := Blk.all hs4.head
        have eg := EG.out
        have HS4 := Lib.hid hs4
        clear hcell hm hx hs hs4 hY hX hPl hYl hskip hkeep hfit
        cases hb : p x
        · go_wp2_with (first | (go_at_fn k; refine hpx.mono ?_; clear hpx; rintro e w3 ⟨rfl, hb2⟩; have hs5 := HS4.out.below hb2; clear hb2; obtain ⟨hc5, _, hl5⟩ := Blk.all hs5.head; have HS5 := Lib.hid hs5; clear hs5 hcT hfT hlT) | (refine wpList_store_seg rfl 73 (.tmp 33) (.tmp 32) rfl g (n * 5) #[.int .i64 x.id, .string x.room, .string x.user, .int .i64 x.til, .int .i64 x.rights] rfl rfl 73 Y.toArray HS5.out.swap1.head si73 HFIT.out (by simp [Value.oneCell']) ?_; have HS6 := Lib.hid (HS5.out.drop.setSeg (n * 5) [.int .i64 x.id, .string x.room, .string x.user, .int .i64 x.til, .int .i64 x.rights]); clear hc5 hl5))
          go_roundw
          case rel =>
            have h1 := HK.out.2 hb
            have h2 := HS6.out
            refine ⟨j + 1, n + 1, X.drop 5 ++ memC x, by omega, by omega, by go_num, by go_num, by rw [h1.1, List.length_append, ← HN.out]; rfl, ?_, ?_, ?_⟩
            · rw [List.length_append, List.length_drop, HX.out, show j + 1 - (n + 1) = j - n by omega]
              have := Nat.mul_le_mul_right 5 (show 1 ≤ j - n by omega)
              show (j - n) * 5 - 5 + 5 = _
              omega
            · rw [← h1.2, List.length_append, List.length_append, List.length_take, List.length_drop, HYL.out]
              have := HFIT.out
              show min (n * 5) (c * 5) + 5 + (c * 5 - (n * 5 + 5)) = _
              have h3 : n * 5 + 5 ≤ Y.length := this
              rw [HYL.out] at h3
              omega
            · rw [← h1.2]
              simpa [memC] using h2
          case measure => simp [intOf]; omega
        · go_wp2_with (go_at_fn k; refine hpx.mono ?_; clear hpx; rintro e w3 ⟨rfl, hb2⟩; have HS5 := Lib.hid (HS4.out.drop.below hb2); clear hb2 hcT hfT hlT)
          go_roundw
          case rel =>
            have h1 := HK.out.1 hb
            refine ⟨j + 1, n, X ++ memC x, by omega, by omega, rfl, by go_num, by rw [h1.1]; exact HN.out, by rw [List.length_append, HX.out, show j + 1 - n = j - n + 1 by omega, Nat.add_mul]; rfl, by rw [← h1.2]; exact HYL.out, by rw [← h1.2]; exact HS5.out⟩
          case measure => simp [intOf]; omega
      · have hjl : j = l.length := by omega
        subst hjl
        have hk2 : (l.length : Int) ≤ l.length := by omega
        rw [List.drop_length, List.take_length, flat, List.nil_append] at hYl hs
        rw [List.take_length] at HN hPl
        obtain ⟨Y, hY⟩ : ∃ Y, Y = flat memC (l.filter (fun x => !p x)) ++ X ++ R := ⟨_, rfl⟩
        have HF := Lib.hid (show Y.take (n * 5) = flat memC (l.filter (fun x => !p x)) by
          rw [hY, List.append_assoc, List.take_left' (by rw [flat_len (s := 5) (fun _ => rfl), HN.out])])
        rw [← hY] at hs hYl
        have hglt := hs.head.lt
        have HYL := Lib.hid hYl
        have HS5 := Lib.hid hs
        have hfit : n * 5 + (l.length - n) * (Value.agg #[.int .i64 0, .string ⟨#[]⟩, .string ⟨#[]⟩, .int .i64 0, .int .i64 0]).cells.size ≤ Y.toArray.size := by
          show n * 5 + (l.length - n) * 5 ≤ Y.length
          rw [hYl, ← Nat.add_mul]
          exact Nat.mul_le_mul_right _ (by omega)
        obtain ⟨zs, hzs⟩ : ∃ zs, zs = (Builtin.zeroCells (Value.agg #[.int .i64 0, .string ⟨#[]⟩, .string ⟨#[]⟩, .int .i64 0, .int .i64 0]).cells (l.length - n)).toList := ⟨_, rfl⟩
        have hcl : ∀ ty, (Builtin.clear_ #[64] ty #[.slice (some ⟨g, n * 5, none⟩) (l.length - n) (c - n)]).run Try.prog wr = _ := fun ty => run_clear_row (P := Try.prog) (w := wr) 64 73 ty (.agg #[.int .i64 0, .string ⟨#[]⟩, .string ⟨#[]⟩, .int .i64 0, .int .i64 0]) Try.underlying64 zr73 g (n * 5) (l.length - n) (c - n) 73 Y.toArray hs.head hfit (by simp [Value.cells, Value.oneCell']) (by decide) zs hzs
        have hzl : zs.length = (l.length - n) * 5 := by rw [hzs]; simp [Builtin.zeroCells, Value.cells]
        have hs6 := hs.setSeg (n * 5) zs
        have hZ2 : (Y.toArray.toList.take (n * 5) ++ zs ++ Y.toArray.toList.drop (n * 5 + zs.length)).toArray.size = c * 5 := by
          have h3 : n * 5 + (l.length - n) * 5 ≤ Y.length := hfit
          simp only [List.size_toArray, List.length_append, List.length_take, List.length_drop, List.toList_toArray, hzl]
          omega
        have hZ3 : (Y.toArray.toList.take (n * 5) ++ zs ++ Y.toArray.toList.drop (n * 5 + zs.length)).toArray.toList.take (n * 5) = flat memC (l.filter (fun x => !p x)) := by
          have h3 : n * 5 + (l.length - n) * 5 ≤ Y.length := hfit
          rw [← HF.out]
          simp only [List.toList_toArray, List.append_assoc]
          exact List.take_left' (by rw [List.length_take]; omega)
        generalize (Y.toArray.toList.take (n * 5) ++ zs ++ Y.toArray.toList.drop (n * 5 + zs.length)).toArray = Z at hcl hs6 hZ2 hZ3
        have hn2 : n ≤ c := by omega
        have HS6 := Lib.hid (hs6.bkRow (n := n) (c := c) hn2 hcm hZ2 hZ3)
        have hcn : ¬ (c = n) := by omega
        clear hlt hs hY hYl hPl hX hfit hzs hzl hs6 hZ2 hZ3
        go_wp2
        go_returns
        rw [← HN.out]
        exact Ret.mk (.refl I) HS6.out ⟨rfl, rfl, rfl⟩
end Go.Proofs.Ytbaobonlolbnpaa
