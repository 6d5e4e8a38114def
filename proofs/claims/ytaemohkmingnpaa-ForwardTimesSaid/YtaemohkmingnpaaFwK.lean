/- ForwardTimes. -/
import Derived.Test.YtaemohkmingnpaaFwT
namespace Go.Proofs.Ytaemohkmingnpaa
open Go.RowKit
set_option linter.unusedSimpArgs false

def arrC (k : IntKind) (l : List Int) : Array Value := (l.map (Value.int k)).toArray
theorem arrC_at (k : IntKind) (l : List Int) (i : Nat) (h : i < l.length) : (arrC k l)[i]? = some (.int k l[i]) := by simp [arrC, h]
theorem arrC_set (k : IntKind) (l : List Int) (i : Nat) (x : Int) : (arrC k l).setIfInBounds i (.int k x) = arrC k (l.set i x) := by simp [arrC, List.map_set]
theorem arrKeep {w : World} {q9 q10 kk : Nat} {ss ts : List Int} {s1 t1 : Int} (hs : kk < ss.length) (ht : kk < ts.length) (h2 : Blk w q9 52 (arrC .u16 (ss.set kk s1))) (h3 : Blk w q10 53 (arrC .u32 (ts.set kk t1))) :
    w.cell? ⟨q9, kk, none⟩ = some (.int .u16 s1) ∧ w.cell? ⟨q10, kk, none⟩ = some (.int .u32 t1) :=
  ⟨(h2.cell kk).trans ((arrC_at .u16 _ kk (by simpa using hs)).trans (by rw [List.getElem_set_self])), (h3.cell kk).trans ((arrC_at .u32 _ kk (by simpa using ht)).trans (by rw [List.getElem_set_self]))⟩
theorem kk_at (layer : Int) : ∃ kk : Nat, kk < 4 ∧ Value.int IntKind.i64 (wrap64 ((IntKind.u64.wrap layer).tmod 4)) = .int .i64 kk := by
  have e : IntKind.u64.wrap layer = layer % 18446744073709551616 := by simp only [IntKind.wrap, IntKind.signed, IntKind.bits]; rfl
  have h0 : 0 ≤ IntKind.u64.wrap layer := by rw [e]; omega
  generalize IntKind.u64.wrap layer = z at h0 ⊢
  have h1 : z.tmod 4 = z % 4 := Int.tmod_eq_emod_of_nonneg h0
  rw [h1]
  have h2 : wrap64 (z % 4) = z % 4 := by unfold wrap64; omega
  rw [h2]
  exact ⟨(z % 4).toNat, by omega, by rw [Int.toNat_of_nonneg (by omega)]⟩
theorem times_start {m : Md} (hm : m.ok) : TInv 0 (fl0 m) [0, 0, 0, 0] [0, 0, 0, 0] 0 false := by
  have h4 : ∀ j (h : j < [(0 : Int), 0, 0, 0].length), [(0 : Int), 0, 0, 0][j] = 0 := fun j hj => by
    match j, hj with
    | 0, _ => rfl
    | 1, _ => rfl
    | 2, _ => rfl
    | 3, _ => rfl
  exact ⟨fl0_ok hm, rfl, rfl, fun j hj => by rw [h4 j hj]; decide, fun j hj => by rw [h4 j hj]; decide, by decide, rfl, fun _ => rfl, fun h => by cases h⟩
theorem pk5_ok {x : OpD} {a b : Value} {n n' : Int} (h : (pk5 x a n).ok) : (pk5 x b n').ok := ⟨h.seq, h.time⟩
set_option maxRecDepth 8000 in
set_option maxHeartbeats 8000000 in
theorem law5 (I : Img) (M : List Res) (w : World) (m : Md) (A : Option Addr) (c : Nat) (xs : List OpD) (hst : St I M w) (hm : m.ok) (hB : Ops I A xs) (hlx : xs.length ≤ 140737488351232) :
    Calls Try.prog 5 #[.agg (mdC m), .slice A xs.length c] w (Yes I M) := by
  have HB := Lib.hid hB
  have hst1 := hst.alloc 25 (mdC m)
  clear hst hB
  go_enter Try.func5, Try.ntmps5
  go_wp2_with fail
  refine (awakeC I _ _ hst1).mono ?_
  clear hst1
  rintro e w1 ⟨_, J, _, rfl, hle, hst1, rfl, rfl⟩
  obtain ⟨hc3, hf3, hlt3⟩ := Blk.all hst1.head
  have H1 := Lib.hid hst1
  clear hst1
  go_wp2_with fail
  refine (beginC J _ _ m H1.out).mono ?_
  clear H1 hc3 hf3 hlt3
  rintro e w2 ⟨_, _, _, rfl, hle2, hst2, rfl, p, r, rfl, rfl⟩
  have hst3 := (hst2.drop.alloc 53 (arrC .u32 [0, 0, 0, 0]))
  have H2 := Lib.hid (And.intro hle (((hst2.drop.alloc 52 (arrC .u16 [0, 0, 0, 0])).alloc 53 (arrC .u32 [0, 0, 0, 0])).swap2))
  simp only [World.size_alloc] at H2
  clear hst2 hle2 hle hst3
  go_wp2_with fail
  have HI0 := Lib.hid (show TInv 0 (fl0 m) [0, 0, 0, 0] [0, 0, 0, 0] 0 false from times_start hm)
  go_loopw [7, 8, 26] (fun lv sv iv wr => ∃ (k : Nat) (f : Fl) (ss ts : List Int) (last : Int) (sb : Bool), k ≤ xs.length ∧ iv = .int .i64 k ∧ lv = .int .u32 last ∧ sv = .bool sb ∧ Hid (TInv k f ss ts last sb ∧ ∃ J, I.le J ∧ St J (bk p 64 (flC f) :: bk w2.heap.size 52 (arrC .u16 ss) :: bk (w2.heap.size + 1) 53 (arrC .u32 ts) :: bk w.heap.size 25 (mdC m) :: M) wr)) (fun _ _ iv _ => xs.length - (intOf iv).toNat)
  case atStart => exact ⟨0, fl0 m, _, _, 0, false, by omega, rfl, rfl, rfl, HI0.out, J, H2.out.1, H2.out.2⟩
  case round =>
    obtain ⟨k, f, ss, ts, last, sb, hk, rfl, rfl, rfl, hh⟩ := hrel
    obtain ⟨hinv, J, hle, hst⟩ := hh.out
    clear hh H2 HI0
    have HT := Lib.hid hinv
    have hok := hinv.ok
    have h4s := hinv.s4
    have h4t := hinv.t4
    clear hinv
    by_cases hlt : k < xs.length
    · obtain ⟨x, hx⟩ : ∃ x, x = xs[k] := ⟨_, rfl⟩
      obtain ⟨g, o, rfl, hc⟩ := HB.out (by omega)
      obtain ⟨hcell, hby, hlb, hxo⟩ := hc k hlt
      rw [← hx] at hcell hby hlb hxo
      clear hc hx
      obtain ⟨pick, layer, seq, time, marker, Ax, cx, bs, now⟩ := x
      obtain ⟨ol, os, ot, on⟩ := hxo
      dsimp only at hcell hby hlb ol os ot on
      have z0 : wr.cell? ⟨g, o + k * 7, none⟩ = some (.bool pick) := hst.cell (hle.cell (hcell 0 (by decide)))
      have z1 : wr.cell? ⟨g, o + k * 7 + 1, none⟩ = some (.int .i64 layer) := hst.cell (hle.cell (hcell 1 (by decide)))
      have z2 : wr.cell? ⟨g, o + k * 7 + 2, none⟩ = some (.int .u16 seq) := hst.cell (hle.cell (hcell 2 (by decide)))
      have z3 : wr.cell? ⟨g, o + k * 7 + 3, none⟩ = some (.int .u32 time) := hst.cell (hle.cell (hcell 3 (by decide)))
      have z4 : wr.cell? ⟨g, o + k * 7 + 4, none⟩ = some (.bool marker) := hst.cell (hle.cell (hcell 4 (by decide)))
      have z5 : wr.cell? ⟨g, o + k * 7 + 5, none⟩ = some (.slice Ax bs.length cx) := hst.cell (hle.cell (hcell 5 (by decide)))
      have z6 : wr.cell? ⟨g, o + k * 7 + 6, none⟩ = some (.int .i64 now) := hst.cell (hle.cell (hcell 6 (by decide)))
      have hst3 := (hst.alloc 44 (opC ⟨pick, layer, seq, time, marker, Ax, cx, bs, now⟩)).swap1
      have HBY := Lib.hid (hby.mono hle)
      have HLE := Lib.hid hle
      clear hcell hby hle hst
      go_upto_region 12 with fail
      generalize World.alloc wr _ = W at hst3 ⊢
      obtain ⟨hcO, hfO, hltO⟩ := Blk.all (hst3.at 1 rfl)
      have HST := Lib.hid hst3
      clear hst3 z0 z1 z2 z3 z4 z5 z6
      go_cut [13] (fun v wx => wx = W ∧ ∃ kk : Nat, kk < 4 ∧ v = .int .i64 kk)
      case first =>
        go_wp2
        go_meet
        exact ⟨rfl, kk_at layer⟩
      case rest =>
        obtain ⟨rfl, kk, hkk, rfl⟩ := hcut
        cases pick
        · have hs0 : kk < ss.length := by omega
          have ht0 : kk < ts.length := by omega
          have b52 : Blk wc w2.heap.size 52 (arrC .u16 ss) := HST.out.at 2 rfl
          have c52 := (b52.cell kk).trans (arrC_at .u16 ss kk hs0)
          have f52 := b52.frozen kk
          have l52 := b52.lt
          obtain ⟨sv, hsv⟩ : ∃ sv, sv = ss[kk] := ⟨_, rfl⟩
          rw [← hsv] at c52
          clear b52 hsv
          go_upto_region 15 with fail
          go_cut [] (fun wx => ∃ s1, (0 ≤ s1 ∧ s1 ≤ 65535) ∧ St J (bk p 64 (flC f) :: bk wr.heap.size 44 (opC ⟨false, layer, seq, time, marker, Ax, cx, bs, now⟩) :: bk w2.heap.size 52 (arrC .u16 (ss.set kk s1)) :: bk (w2.heap.size + 1) 53 (arrC .u32 ts) :: bk w.heap.size 25 (mdC m) :: M) wx)
          case first =>
            go_region
            go_wp2
            go_meet
            refine ⟨_, ?_, (by rw [← arrC_set]; exact HST.out.drew.set2 kk _)⟩
            rw [u16_mod]
            omega
          case rest =>
            obtain ⟨s1, hs1, hst15⟩ := hcut
            clear c52 f52 l52 hcO hfO hltO HST
            by_cases hk2 : k < 200
            · have hk3 : (k : Int) ≤ 199 := by omega
              have b53 : Blk wc (w2.heap.size + 1) 53 (arrC .u32 ts) := hst15.at 3 rfl
              have c53 := (b53.cell kk).trans (arrC_at .u32 ts kk ht0)
              have f53 := b53.frozen kk
              have l53 := b53.lt
              obtain ⟨tv, htv⟩ : ∃ tv, tv = ts[kk] := ⟨_, rfl⟩
              have htr := HT.out.tr kk ht0
              rw [← htv] at c53 htr
              have HTV := Lib.hid htv
              obtain ⟨hcO, hfO, hltO⟩ := Blk.all (hst15.at 1 rfl)
              have H15 := Lib.hid hst15
              clear b53 htv hst15
              go_upto_region 17 with fail
              go_cut [] (fun wx => ∃ inc, (0 ≤ inc ∧ inc ≤ 1048575) ∧ St J (bk p 64 (flC f) :: bk wr.heap.size 44 (opC ⟨false, layer, seq, time, marker, Ax, cx, bs, now⟩) :: bk w2.heap.size 52 (arrC .u16 (ss.set kk s1)) :: bk (w2.heap.size + 1) 53 (arrC .u32 (ts.set kk (tv + inc))) :: bk w.heap.size 25 (mdC m) :: M) wx)
              case first =>
                go_region
                go_wp2
                go_meet
                refine ⟨time % 1048576, by omega, ?_⟩
                have hx := (H15.out.set3 kk (.int .u32 (tv + time % 1048576))).drew
                rw [arrC_set] at hx
                exact hx
              case rest =>
                obtain ⟨inc, hinc, hst17⟩ := hcut
                clear c53 f53 l53 hcO hfO hltO H15
                obtain ⟨t1, ht1⟩ : ∃ t1, t1 = tv + inc := ⟨_, rfl⟩
                rw [← ht1] at hst17
                have b52 : Blk wc w2.heap.size 52 (arrC .u16 (ss.set kk s1)) := hst17.at 2 rfl
                have c52 : wc.cell? ⟨w2.heap.size, kk, none⟩ = some (.int .u16 s1) := (b52.cell kk).trans ((arrC_at .u16 _ kk (by simpa using hs0)).trans (by rw [List.getElem_set_self]))
                have l52 := b52.lt
                have b53 : Blk wc (w2.heap.size + 1) 53 (arrC .u32 (ts.set kk t1)) := hst17.at 3 rfl
                have c53 : wc.cell? ⟨w2.heap.size + 1, kk, none⟩ = some (.int .u32 t1) := (b53.cell kk).trans ((arrC_at .u32 _ kk (by simpa using ht0)).trans (by rw [List.getElem_set_self]))
                have l53 := b53.lt
                obtain ⟨hcO, hfO, hltO⟩ := Blk.all (hst17.at 1 rfl)
                have H17 := Lib.hid hst17
                have HTI := Lib.hid (And.intro ht1 hinc)
                clear b52 b53 hst17 ht1 hinc
                go_upto_region 18 with fail
                go_cut [] (fun wx => St J (bk p 64 (flC f) :: bk wr.heap.size 44 (opC ⟨false, layer, s1, t1, marker, Ax, cx, bs, now⟩) :: bk w2.heap.size 52 (arrC .u16 (ss.set kk s1)) :: bk (w2.heap.size + 1) 53 (arrC .u32 (ts.set kk t1)) :: bk w.heap.size 25 (mdC m) :: M) wx)
                case first =>
                  clear c52 c53
                  have hkk4 : (kk : Int) < 4 := by omega
                  refine wp_region_held_drew (S := (fun w' => w'.cell? ⟨w2.heap.size, kk, none⟩ = some (.int .u16 s1) ∧ w'.cell? ⟨w2.heap.size + 1, kk, none⟩ = some (.int .u32 t1))) (by kernel_rfl) (by (try dsimp only); first | exact arrKeep hs0 ht0 (H17.out.drew.at 2 rfl) (H17.out.drew.at 3 rfl) | exact arrKeep hs0 ht0 ((H17.out.set1 2 (.int .u16 s1)).drew.at 2 rfl) ((H17.out.set1 2 (.int .u16 s1)).drew.at 3 rfl) | exact arrKeep hs0 ht0 (((H17.out.set1 2 (.int .u16 s1)).set1 3 (.int .u32 t1)).drew.at 2 rfl) (((H17.out.set1 2 (.int .u16 s1)).set1 3 (.int .u32 t1)).drew.at 3 rfl)) (fun hHeld => ?_)
                  refine wpAnyH_take (i := 0) (oi := _) (v := ?_) rfl (by kernel_rfl) (by kernel_rfl) (by kernel_rfl) (fun _ _ _ h => h) (Or.inl ⟨by rfl, ?_⟩) (by assumption) ?_
                  rotate_left
                  · (intro w hSw; (try dsimp only at hSw); go_simp; try with_reducible rfl)
                  try simp only [Act.put, List.getElem_toArray, List.getElem_cons_zero, List.getElem_cons_succ, List.setIfInBounds_toArray, List.set_cons_zero, List.set_cons_succ]
                  refine wpAnyH_take (i := 1) (oi := _) (v := ?_) rfl (by kernel_rfl) (by kernel_rfl) (by kernel_rfl) (fun _ _ _ h => h) (Or.inl ⟨by rfl, ?_⟩) (by assumption) ?_
                  rotate_left
                  · (intro w hSw; (try dsimp only at hSw); go_simp; try with_reducible rfl)
                  try simp only [Act.put, List.getElem_toArray, List.getElem_cons_zero, List.getElem_cons_succ, List.setIfInBounds_toArray, List.set_cons_zero, List.set_cons_succ]
                  refine wpAnyH_take (i := 2) (oi := _) (v := ?_) rfl (by kernel_rfl) (by kernel_rfl) (by kernel_rfl) (fun _ _ _ h => h) (Or.inl ⟨by rfl, ?_⟩) (by assumption) ?_
                  rotate_left
                  · (intro w hSw; (try dsimp only at hSw); go_simp; try with_reducible rfl)
                  try simp only [Act.put, List.getElem_toArray, List.getElem_cons_zero, List.getElem_cons_succ, List.setIfInBounds_toArray, List.set_cons_zero, List.set_cons_succ]
                  refine wpAnyH_take (i := 3) (oi := _) (v := ?_) rfl (by kernel_rfl) (by kernel_rfl) (by kernel_rfl) (fun _ _ _ h => h) (Or.inl ⟨by rfl, ?_⟩) (by assumption) ?_
                  rotate_left
                  · (intro w hSw; (try dsimp only at hSw); go_simp; try with_reducible rfl)
                  try simp only [Act.put, List.getElem_toArray, List.getElem_cons_zero, List.getElem_cons_succ, List.setIfInBounds_toArray, List.set_cons_zero, List.set_cons_succ]
                  refine wpAnyH_take (i := 4) (oi := _) (v := ?_) rfl (by kernel_rfl) (by kernel_rfl) (by kernel_rfl) (fun _ _ _ h => h) (Or.inl ⟨by rfl, ?_⟩) (by assumption) ?_
                  rotate_left
                  · (intro w hSw; (try dsimp only at hSw); go_simp; try with_reducible rfl)
                  try simp only [Act.put, List.getElem_toArray, List.getElem_cons_zero, List.getElem_cons_succ, List.setIfInBounds_toArray, List.set_cons_zero, List.set_cons_succ]
                  refine wpAnyH_take (i := 5) (oi := _) (v := ?_) rfl (by kernel_rfl) (by kernel_rfl) (by kernel_rfl) (fun _ _ _ h => h) (Or.inl ⟨by rfl, ?_⟩) (by assumption) ?_
                  rotate_left
                  · (intro w hSw; (try dsimp only at hSw); go_simp; try with_reducible rfl)
                  try simp only [Act.put, List.getElem_toArray, List.getElem_cons_zero, List.getElem_cons_succ, List.setIfInBounds_toArray, List.set_cons_zero, List.set_cons_succ]
                  refine wpAnyH_take (i := 6) (oi := _) (v := ?_) rfl (by kernel_rfl) (by kernel_rfl) (by kernel_rfl) (fun _ _ _ h => h) (Or.inl ⟨by rfl, ?_⟩) (by assumption) ?_
                  rotate_left
                  · (intro w hSw; (try dsimp only at hSw); go_simp; try with_reducible rfl)
                  try simp only [Act.put, List.getElem_toArray, List.getElem_cons_zero, List.getElem_cons_succ, List.setIfInBounds_toArray, List.set_cons_zero, List.set_cons_succ]
                  refine wpAnyH_ready (rs := [7]) (by kernel_rfl) (by simp) ?_
                  refine AllReadyH.cons (o := _) rfl (fun K hK => ?_) AllReadyH.nil
                  go_simp
                  try clear hHeld
                  refine hK.out _ _ (by (try dsimp only); first | exact arrKeep hs0 ht0 (H17.out.drew.at 2 rfl) (H17.out.drew.at 3 rfl) | exact arrKeep hs0 ht0 ((H17.out.set1 2 (.int .u16 s1)).drew.at 2 rfl) ((H17.out.set1 2 (.int .u16 s1)).drew.at 3 rfl) | exact arrKeep hs0 ht0 (((H17.out.set1 2 (.int .u16 s1)).set1 3 (.int .u32 t1)).drew.at 2 rfl) (((H17.out.set1 2 (.int .u16 s1)).set1 3 (.int .u32 t1)).drew.at 3 rfl)) (fun hHeld => ?_)
                  clear hK K
                  try simp only [Act.put, List.getElem_toArray, List.getElem_cons_zero, List.getElem_cons_succ, List.setIfInBounds_toArray, List.set_cons_zero, List.set_cons_succ]
                  refine wpAnyH_take (i := 8) (oi := _) (v := ?_) rfl (by kernel_rfl) (by kernel_rfl) (by kernel_rfl) (fun _ _ _ h => h) (Or.inl ⟨by rfl, ?_⟩) (by assumption) ?_
                  rotate_left
                  · (intro w hSw; (try dsimp only at hSw); go_simp; try with_reducible rfl)
                  try simp only [Act.put, List.getElem_toArray, List.getElem_cons_zero, List.getElem_cons_succ, List.setIfInBounds_toArray, List.set_cons_zero, List.set_cons_succ]
                  refine wpAnyH_ready (rs := [9]) (by kernel_rfl) (by simp) ?_
                  refine AllReadyH.cons (o := _) rfl (fun K hK => ?_) AllReadyH.nil
                  go_simp
                  try clear hHeld
                  refine hK.out _ _ (by (try dsimp only); first | exact arrKeep hs0 ht0 (H17.out.drew.at 2 rfl) (H17.out.drew.at 3 rfl) | exact arrKeep hs0 ht0 ((H17.out.set1 2 (.int .u16 s1)).drew.at 2 rfl) ((H17.out.set1 2 (.int .u16 s1)).drew.at 3 rfl) | exact arrKeep hs0 ht0 (((H17.out.set1 2 (.int .u16 s1)).set1 3 (.int .u32 t1)).drew.at 2 rfl) (((H17.out.set1 2 (.int .u16 s1)).set1 3 (.int .u32 t1)).drew.at 3 rfl)) (fun hHeld => ?_)
                  clear hK K
                  try simp only [Act.put, List.getElem_toArray, List.getElem_cons_zero, List.getElem_cons_succ, List.setIfInBounds_toArray, List.set_cons_zero, List.set_cons_succ]
                  refine wpAnyH_done (by kernel_rfl) ?_ _
                  go_wp2
                  go_meet
                  exact ((H17.out.set1 2 (.int .u16 s1)).set1 3 (.int .u32 t1)).drew
                case rest =>
                  clear c52 c53 l52 l53 hcO hfO hltO H17
                  have HST := Lib.hid hcut
                  clear hcut
                  have HP2 : Hid (Pk.ok (pk5 ⟨false, layer, s1, t1, marker, Ax, cx, bs, now⟩ (.slice none 0 0) 0)) := Lib.hid ⟨hs1, by show 0 ≤ t1 ∧ t1 ≤ 4294967295; have := HTI.out.1; have := HTI.out.2; omega⟩
                  rcases hpu : pushS f kk (pk5 ⟨false, layer, s1, t1, marker, Ax, cx, bs, now⟩ (.slice none 0 0) 0) bs now with ⟨f1, sent, ask⟩
                  have HTP := Lib.hid (TInv.push (b := (beginsS f.codec bs).1) HT.out ht0 hk2 hs1 HTI.out.2 rfl rfl HP2.out (HTI.out.1.trans (by rw [HTV.out])) on hpu)
                  have HPU := Lib.hid hpu
                  have HET := Lib.hid (show ts.set kk (ts[kk] + inc) = ts.set kk t1 by rw [HTI.out.1, HTV.out])
                  clear hpu
                  obtain ⟨hcO, hfO, hltO⟩ := Blk.all (HST.out.at 1 rfl)
                  go_upto_region 19 with fail
                  generalize wc = W at *
                  go_cut [14, 15, 16] (fun v14 v15 v16 wx => v15 = .bool sent ∧ v16 = .bool ask ∧ ∃ xq, v14 = .pointer (some ⟨xq, 0, none⟩) ∧ PushCut I (bk w2.heap.size 52 (arrC .u16 (ss.set kk s1)) :: bk (w2.heap.size + 1) 53 (arrC .u32 (ts.set kk t1)) :: bk w.heap.size 25 (mdC m) :: M) p wr.heap.size f f1 ⟨false, layer, s1, t1, marker, Ax, cx, bs, now⟩ sent xq wx)
                  case first =>
                    have hs := HST.out.drew
                    clear HST hcO hfO hltO
                    refine wp_region_held_drew (S := (fun w' => w'.cell? ⟨wr.heap.size, 0, none⟩ = some (.bool false) ∧ w'.cell? ⟨wr.heap.size, 1, none⟩ = some (.int .i64 layer) ∧ w'.cell? ⟨wr.heap.size, 2, none⟩ = some (.int .u16 s1) ∧ w'.cell? ⟨wr.heap.size, 3, none⟩ = some (.int .u32 t1) ∧ w'.cell? ⟨wr.heap.size, 4, none⟩ = some (.bool marker) ∧ w'.cell? ⟨wr.heap.size, 5, none⟩ = some (.slice Ax bs.length cx) ∧ w'.cell? ⟨wr.heap.size, 6, none⟩ = some (.int .i64 now))) (by kernel_rfl) (by (try dsimp only); first | exact opKeep hs | exact opKeep (hs.grow _)) (fun hHeld => ?_)
                    generalize World.drew W = W at hs hHeld ⊢
                    refine wpAnyH_take (i := 0) (oi := _) (v := ?_) rfl (by kernel_rfl) (by kernel_rfl) (by kernel_rfl) (fun _ _ _ h => h) (Or.inl ⟨by rfl, ?_⟩) (by assumption) ?_
                    rotate_left
                    · (intro w hSw; (try dsimp only at hSw); go_simp; try with_reducible rfl)
                    try simp only [Act.put, List.getElem_toArray, List.getElem_cons_zero, List.getElem_cons_succ, List.setIfInBounds_toArray, List.set_cons_zero, List.set_cons_succ]
                    refine wpAnyH_take (i := 1) (oi := _) (v := ?_) rfl (by kernel_rfl) (by kernel_rfl) (by kernel_rfl) (fun _ _ _ h => h) (Or.inl ⟨by rfl, ?_⟩) (by assumption) ?_
                    rotate_left
                    · (intro w hSw; (try dsimp only at hSw); go_simp; try with_reducible rfl)
                    try simp only [Act.put, List.getElem_toArray, List.getElem_cons_zero, List.getElem_cons_succ, List.setIfInBounds_toArray, List.set_cons_zero, List.set_cons_succ]
                    refine wpAnyH_take (i := 2) (oi := _) (v := ?_) rfl (by kernel_rfl) (by kernel_rfl) (by kernel_rfl) (fun _ _ _ h => h) (Or.inl ⟨by rfl, ?_⟩) (by assumption) ?_
                    rotate_left
                    · (intro w hSw; (try dsimp only at hSw); go_simp; try with_reducible rfl)
                    try simp only [Act.put, List.getElem_toArray, List.getElem_cons_zero, List.getElem_cons_succ, List.setIfInBounds_toArray, List.set_cons_zero, List.set_cons_succ]
                    refine wpAnyH_take (i := 5) (oi := _) (v := ?_) rfl (by kernel_rfl) (by kernel_rfl) (by kernel_rfl) (fun _ _ _ h => h) (Or.inl ⟨by rfl, ?_⟩) (by assumption) ?_
                    rotate_left
                    · (intro w hSw; (try dsimp only at hSw); go_simp; try with_reducible rfl)
                    try simp only [Act.put, List.getElem_toArray, List.getElem_cons_zero, List.getElem_cons_succ, List.setIfInBounds_toArray, List.set_cons_zero, List.set_cons_succ]
                    refine wpAnyH_take (i := 6) (oi := _) (v := ?_) rfl (by kernel_rfl) (by kernel_rfl) (by kernel_rfl) (fun _ _ _ h => h) (Or.inl ⟨by rfl, ?_⟩) (by assumption) ?_
                    rotate_left
                    · (intro w hSw; (try dsimp only at hSw); go_simp; try with_reducible rfl)
                    try simp only [Act.put, List.getElem_toArray, List.getElem_cons_zero, List.getElem_cons_succ, List.setIfInBounds_toArray, List.set_cons_zero, List.set_cons_succ]
                    refine wpAnyH_ready (rs := [3, 12]) (by kernel_rfl) (by simp) ?_
                    refine (AllReadyH.cons (o := _) rfl (fun K hK => ?_) (AllReadyH.cons (o := _) rfl (fun K hK => ?_) AllReadyH.nil))
                    · skip
                      go_simp
                      refine (packetC J _ W ⟨false, layer, s1, t1, marker, Ax, cx, bs, now⟩ hs).mono ?_
                      clear hs
                      rintro e W ⟨_, _, _, rfl, _, hs, rfl, rfl, rfl⟩
                      try clear hHeld
                      refine hK.out _ _ (by (try dsimp only); first | exact opKeep hs | exact opKeep (hs.grow _)) (fun hHeld => ?_)
                      clear hK K
                      try simp only [Act.put, List.getElem_toArray, List.getElem_cons_zero, List.getElem_cons_succ, List.setIfInBounds_toArray, List.set_cons_zero, List.set_cons_succ]
                      refine wpAnyH_ready (rs := [4, 12]) (by kernel_rfl) (by simp) ?_
                      refine (AllReadyH.cons (o := _) rfl (fun K hK => ?_) (AllReadyH.cons (o := _) rfl (fun K hK => ?_) AllReadyH.nil))
                      · skip
                        go_simp
                        refine (theirsC J _ W (pk5 ⟨false, layer, s1, t1, marker, Ax, cx, bs, now⟩ (.slice none 0 0) 0) Ax cx bs hs HBY.out hlb).mono ?_
                        clear hs
                        rintro e W ⟨_, _, _, rfl, _, hs, rfl, A5, c5, ev, rfl, rfl⟩
                        obtain ⟨J5, hle5, hs5, hby5⟩ := hs.freezeRow
                        replace hs := hs5
                        have HBY5 := Lib.hid hby5
                        have HLE5 := Lib.hid (HLE.out.trans hle5)
                        clear hs5 hby5 hle5
                        try clear hHeld
                        refine hK.out _ _ (by (try dsimp only); first | exact opKeep hs | exact opKeep (hs.grow _)) (fun hHeld => ?_)
                        clear hK K
                        try simp only [Act.put, List.getElem_toArray, List.getElem_cons_zero, List.getElem_cons_succ, List.setIfInBounds_toArray, List.set_cons_zero, List.set_cons_succ]
                        refine wpAnyH_ready (rs := [7, 12]) (by kernel_rfl) (by simp) ?_
                        refine (AllReadyH.cons (o := _) rfl (fun K hK => ?_) (AllReadyH.cons (o := _) rfl (fun K hK => ?_) AllReadyH.nil))
                        · skip
                          go_simp
                          refine (pushU J5 _ W p f ⟨marker, 5, s1, t1, 9, .slice none 0 0, ev, 3⟩ A5 c5 bs kk now f1 sent ask HPU.out hs HBY5.out hlb hok ⟨HP2.out.seq, HP2.out.time⟩ on).mono ?_
                          clear hs
                          rintro e W ⟨J8, f2, P2, A8, c8, n8, rfl, hle8, hs, hyes, hno⟩
                          have HQ := Lib.hid (And.intro (HLE5.out.trans hle8) (And.intro hyes hno))
                          clear hle8 hyes hno
                          try clear hHeld
                          refine hK.out _ _ (by (try dsimp only); first | exact opKeep hs | exact opKeep (hs.grow _)) (fun hHeld => ?_)
                          clear hK K
                          try simp only [Act.put, List.getElem_toArray, List.getElem_cons_zero, List.getElem_cons_succ, List.setIfInBounds_toArray, List.set_cons_zero, List.set_cons_succ]
                          refine wpAnyH_take (i := 8) (oi := _) (v := ?_) rfl (by kernel_rfl) (by kernel_rfl) (by kernel_rfl) (fun _ _ _ h => h) (Or.inl ⟨by rfl, ?_⟩) (by assumption) ?_
                          rotate_left
                          · (intro w hSw; (try dsimp only at hSw); go_simp; try with_reducible rfl)
                          try simp only [Act.put, List.getElem_toArray, List.getElem_cons_zero, List.getElem_cons_succ, List.setIfInBounds_toArray, List.set_cons_zero, List.set_cons_succ]
                          refine wpAnyH_take (i := 9) (oi := _) (v := ?_) rfl (by kernel_rfl) (by kernel_rfl) (by kernel_rfl) (fun _ _ _ h => h) (Or.inl ⟨by rfl, ?_⟩) (by assumption) ?_
                          rotate_left
                          · (intro w hSw; (try dsimp only at hSw); go_simp; try with_reducible rfl)
                          try simp only [Act.put, List.getElem_toArray, List.getElem_cons_zero, List.getElem_cons_succ, List.setIfInBounds_toArray, List.set_cons_zero, List.set_cons_succ]
                          refine wpAnyH_take (i := 10) (oi := _) (v := ?_) rfl (by kernel_rfl) (by kernel_rfl) (by kernel_rfl) (fun _ _ _ h => h) (Or.inl ⟨by rfl, ?_⟩) (by assumption) ?_
                          rotate_left
                          · (intro w hSw; (try dsimp only at hSw); go_simp; try with_reducible rfl)
                          try simp only [Act.put, List.getElem_toArray, List.getElem_cons_zero, List.getElem_cons_succ, List.setIfInBounds_toArray, List.set_cons_zero, List.set_cons_succ]
                          refine wpAnyH_take (i := 11) (oi := _) (v := ?_) rfl (by kernel_rfl) (by kernel_rfl) (by kernel_rfl) (fun _ _ _ h => h) (Or.inl ⟨by rfl, ?_⟩) (by assumption) ?_
                          rotate_left
                          · (intro w hSw; (try dsimp only at hSw); go_simp; try with_reducible rfl)
                          try simp only [Act.put, List.getElem_toArray, List.getElem_cons_zero, List.getElem_cons_succ, List.setIfInBounds_toArray, List.set_cons_zero, List.set_cons_succ]
                          refine wpAnyH_ready (rs := [12]) (by kernel_rfl) (by simp) ?_
                          refine (AllReadyH.cons (o := _) rfl (fun K hK => ?_) AllReadyH.nil)
                          go_simp
                          obtain ⟨xq, hxq⟩ : ∃ n, n = W.heap.size := ⟨_, rfl⟩
                          rw [← hxq]
                          try clear hHeld
                          refine hK.out _ _ (by (try dsimp only); first | exact opKeep hs | exact opKeep (hs.grow _)) (fun hHeld => ?_)
                          clear hK K
                          try simp only [Act.put, List.getElem_toArray, List.getElem_cons_zero, List.getElem_cons_succ, List.setIfInBounds_toArray, List.set_cons_zero, List.set_cons_succ]
                          generalize hw : World.alloc W _ = W at hHeld ⊢
                          replace hs := hs.allocTo hw hxq
                          clear hw hxq
                          refine wpAnyH_ready (rs := [13]) (by kernel_rfl) (by simp) ?_
                          refine (AllReadyH.cons (o := _) rfl (fun K hK => ?_) AllReadyH.nil)
                          refine step_store_row (by rfl) 38 _ _ (by rfl) xq (xC P2 (.slice A8 n8 c8)) (by rfl) (by rfl) 38 _ (hs.at 2 rfl) pkI rfl (by simp [Value.oneCell']) ?_
                          replace hs := hs.setR2 (xC P2 (.slice A8 n8 c8))
                          try clear hHeld
                          refine hK.out _ _ (by (try dsimp only); first | exact opKeep hs | exact opKeep (hs.grow _)) (fun hHeld => ?_)
                          clear hK K
                          try simp only [Act.put, List.getElem_toArray, List.getElem_cons_zero, List.getElem_cons_succ, List.setIfInBounds_toArray, List.set_cons_zero, List.set_cons_succ]
                          refine wpAnyH_take (i := 14) (oi := _) (v := ?_) rfl (by kernel_rfl) (by kernel_rfl) (by kernel_rfl) (fun _ _ _ h => h) (Or.inl ⟨by rfl, ?_⟩) (by assumption) ?_
                          rotate_left
                          · (intro w hSw; (try dsimp only at hSw); go_simp; try with_reducible rfl)
                          try simp only [Act.put, List.getElem_toArray, List.getElem_cons_zero, List.getElem_cons_succ, List.setIfInBounds_toArray, List.set_cons_zero, List.set_cons_succ]
                          refine wpAnyH_take (i := 15) (oi := _) (v := ?_) rfl (by kernel_rfl) (by kernel_rfl) (by kernel_rfl) (fun _ _ _ h => h) (Or.inl ⟨by rfl, ?_⟩) (by assumption) ?_
                          rotate_left
                          · (intro w hSw; (try dsimp only at hSw); go_simp; try with_reducible rfl)
                          try simp only [Act.put, List.getElem_toArray, List.getElem_cons_zero, List.getElem_cons_succ, List.setIfInBounds_toArray, List.set_cons_zero, List.set_cons_succ]
                          refine wpAnyH_done (by kernel_rfl) ?_ _
                          go_wp2
                          go_meet
                          exact ⟨rfl, rfl, xq, rfl, J8, f2, P2, A8, c8, n8, HQ.out.1, hs, HQ.out.2.1, HQ.out.2.2⟩
                        · skip
                          go_simp
                          obtain ⟨xq, hxq⟩ : ∃ n, n = W.heap.size := ⟨_, rfl⟩
                          rw [← hxq]
                          try clear hHeld
                          refine hK.out _ _ (by (try dsimp only); first | exact opKeep hs | exact opKeep (hs.grow _)) (fun hHeld => ?_)
                          clear hK K
                          try simp only [Act.put, List.getElem_toArray, List.getElem_cons_zero, List.getElem_cons_succ, List.setIfInBounds_toArray, List.set_cons_zero, List.set_cons_succ]
                          generalize hw : World.alloc W _ = W at hHeld ⊢
                          replace hs := hs.allocTo hw hxq
                          clear hw hxq
                          refine wpAnyH_ready (rs := [7]) (by kernel_rfl) (by simp) ?_
                          refine (AllReadyH.cons (o := _) rfl (fun K hK => ?_) AllReadyH.nil)
                          go_simp
                          refine (pushU J5 _ W p f ⟨marker, 5, s1, t1, 9, .slice none 0 0, ev, 3⟩ A5 c5 bs kk now f1 sent ask HPU.out hs HBY5.out hlb hok ⟨HP2.out.seq, HP2.out.time⟩ on).mono ?_
                          clear hs
                          rintro e W ⟨J8, f2, P2, A8, c8, n8, rfl, hle8, hs, hyes, hno⟩
                          have HQ := Lib.hid (And.intro (HLE5.out.trans hle8) (And.intro hyes hno))
                          clear hle8 hyes hno
                          try clear hHeld
                          refine hK.out _ _ (by (try dsimp only); first | exact opKeep hs | exact opKeep (hs.grow _)) (fun hHeld => ?_)
                          clear hK K
                          try simp only [Act.put, List.getElem_toArray, List.getElem_cons_zero, List.getElem_cons_succ, List.setIfInBounds_toArray, List.set_cons_zero, List.set_cons_succ]
                          refine wpAnyH_take (i := 8) (oi := _) (v := ?_) rfl (by kernel_rfl) (by kernel_rfl) (by kernel_rfl) (fun _ _ _ h => h) (Or.inl ⟨by rfl, ?_⟩) (by assumption) ?_
                          rotate_left
                          · (intro w hSw; (try dsimp only at hSw); go_simp; try with_reducible rfl)
                          try simp only [Act.put, List.getElem_toArray, List.getElem_cons_zero, List.getElem_cons_succ, List.setIfInBounds_toArray, List.set_cons_zero, List.set_cons_succ]
                          refine wpAnyH_take (i := 9) (oi := _) (v := ?_) rfl (by kernel_rfl) (by kernel_rfl) (by kernel_rfl) (fun _ _ _ h => h) (Or.inl ⟨by rfl, ?_⟩) (by assumption) ?_
                          rotate_left
                          · (intro w hSw; (try dsimp only at hSw); go_simp; try with_reducible rfl)
                          try simp only [Act.put, List.getElem_toArray, List.getElem_cons_zero, List.getElem_cons_succ, List.setIfInBounds_toArray, List.set_cons_zero, List.set_cons_succ]
                          refine wpAnyH_take (i := 10) (oi := _) (v := ?_) rfl (by kernel_rfl) (by kernel_rfl) (by kernel_rfl) (fun _ _ _ h => h) (Or.inl ⟨by rfl, ?_⟩) (by assumption) ?_
                          rotate_left
                          · (intro w hSw; (try dsimp only at hSw); go_simp; try with_reducible rfl)
                          try simp only [Act.put, List.getElem_toArray, List.getElem_cons_zero, List.getElem_cons_succ, List.setIfInBounds_toArray, List.set_cons_zero, List.set_cons_succ]
                          refine wpAnyH_take (i := 11) (oi := _) (v := ?_) rfl (by kernel_rfl) (by kernel_rfl) (by kernel_rfl) (fun _ _ _ h => h) (Or.inl ⟨by rfl, ?_⟩) (by assumption) ?_
                          rotate_left
                          · (intro w hSw; (try dsimp only at hSw); go_simp; try with_reducible rfl)
                          try simp only [Act.put, List.getElem_toArray, List.getElem_cons_zero, List.getElem_cons_succ, List.setIfInBounds_toArray, List.set_cons_zero, List.set_cons_succ]
                          refine wpAnyH_ready (rs := [13]) (by kernel_rfl) (by simp) ?_
                          refine (AllReadyH.cons (o := _) rfl (fun K hK => ?_) AllReadyH.nil)
                          refine step_store_row (by rfl) 38 _ _ (by rfl) xq (xC P2 (.slice A8 n8 c8)) (by rfl) (by rfl) 38 _ (hs.at 2 rfl) pkI rfl (by simp [Value.oneCell']) ?_
                          replace hs := hs.setR2 (xC P2 (.slice A8 n8 c8))
                          try clear hHeld
                          refine hK.out _ _ (by (try dsimp only); first | exact opKeep hs | exact opKeep (hs.grow _)) (fun hHeld => ?_)
                          clear hK K
                          try simp only [Act.put, List.getElem_toArray, List.getElem_cons_zero, List.getElem_cons_succ, List.setIfInBounds_toArray, List.set_cons_zero, List.set_cons_succ]
                          refine wpAnyH_take (i := 14) (oi := _) (v := ?_) rfl (by kernel_rfl) (by kernel_rfl) (by kernel_rfl) (fun _ _ _ h => h) (Or.inl ⟨by rfl, ?_⟩) (by assumption) ?_
                          rotate_left
                          · (intro w hSw; (try dsimp only at hSw); go_simp; try with_reducible rfl)
                          try simp only [Act.put, List.getElem_toArray, List.getElem_cons_zero, List.getElem_cons_succ, List.setIfInBounds_toArray, List.set_cons_zero, List.set_cons_succ]
                          refine wpAnyH_take (i := 15) (oi := _) (v := ?_) rfl (by kernel_rfl) (by kernel_rfl) (by kernel_rfl) (fun _ _ _ h => h) (Or.inl ⟨by rfl, ?_⟩) (by assumption) ?_
                          rotate_left
                          · (intro w hSw; (try dsimp only at hSw); go_simp; try with_reducible rfl)
                          try simp only [Act.put, List.getElem_toArray, List.getElem_cons_zero, List.getElem_cons_succ, List.setIfInBounds_toArray, List.set_cons_zero, List.set_cons_succ]
                          refine wpAnyH_done (by kernel_rfl) ?_ _
                          go_wp2
                          go_meet
                          exact ⟨rfl, rfl, xq, rfl, J8, f2, P2, A8, c8, n8, HQ.out.1, hs, HQ.out.2.1, HQ.out.2.2⟩
                      · skip
                        go_simp
                        obtain ⟨xq, hxq⟩ : ∃ n, n = W.heap.size := ⟨_, rfl⟩
                        rw [← hxq]
                        try clear hHeld
                        refine hK.out _ _ (by (try dsimp only); first | exact opKeep hs | exact opKeep (hs.grow _)) (fun hHeld => ?_)
                        clear hK K
                        try simp only [Act.put, List.getElem_toArray, List.getElem_cons_zero, List.getElem_cons_succ, List.setIfInBounds_toArray, List.set_cons_zero, List.set_cons_succ]
                        generalize hw : World.alloc W _ = W at hHeld ⊢
                        replace hs := hs.allocTo hw hxq
                        clear hw hxq
                        refine wpAnyH_ready (rs := [4]) (by kernel_rfl) (by simp) ?_
                        refine (AllReadyH.cons (o := _) rfl (fun K hK => ?_) AllReadyH.nil)
                        go_simp
                        refine (theirsC J _ W (pk5 ⟨false, layer, s1, t1, marker, Ax, cx, bs, now⟩ (.slice none 0 0) 0) Ax cx bs hs HBY.out hlb).mono ?_
                        clear hs
                        rintro e W ⟨_, _, _, rfl, _, hs, rfl, A5, c5, ev, rfl, rfl⟩
                        obtain ⟨J5, hle5, hs5, hby5⟩ := hs.freezeRow
                        replace hs := hs5
                        have HBY5 := Lib.hid hby5
                        have HLE5 := Lib.hid (HLE.out.trans hle5)
                        clear hs5 hby5 hle5
                        try clear hHeld
                        refine hK.out _ _ (by (try dsimp only); first | exact opKeep hs | exact opKeep (hs.grow _)) (fun hHeld => ?_)
                        clear hK K
                        try simp only [Act.put, List.getElem_toArray, List.getElem_cons_zero, List.getElem_cons_succ, List.setIfInBounds_toArray, List.set_cons_zero, List.set_cons_succ]
                        refine wpAnyH_ready (rs := [7]) (by kernel_rfl) (by simp) ?_
                        refine (AllReadyH.cons (o := _) rfl (fun K hK => ?_) AllReadyH.nil)
                        go_simp
                        refine (pushU J5 _ W p f ⟨marker, 5, s1, t1, 9, .slice none 0 0, ev, 3⟩ A5 c5 bs kk now f1 sent ask HPU.out hs HBY5.out hlb hok ⟨HP2.out.seq, HP2.out.time⟩ on).mono ?_
                        clear hs
                        rintro e W ⟨J8, f2, P2, A8, c8, n8, rfl, hle8, hs, hyes, hno⟩
                        have HQ := Lib.hid (And.intro (HLE5.out.trans hle8) (And.intro hyes hno))
                        clear hle8 hyes hno
                        try clear hHeld
                        refine hK.out _ _ (by (try dsimp only); first | exact opKeep hs | exact opKeep (hs.grow _)) (fun hHeld => ?_)
                        clear hK K
                        try simp only [Act.put, List.getElem_toArray, List.getElem_cons_zero, List.getElem_cons_succ, List.setIfInBounds_toArray, List.set_cons_zero, List.set_cons_succ]
                        refine wpAnyH_take (i := 8) (oi := _) (v := ?_) rfl (by kernel_rfl) (by kernel_rfl) (by kernel_rfl) (fun _ _ _ h => h) (Or.inl ⟨by rfl, ?_⟩) (by assumption) ?_
                        rotate_left
                        · (intro w hSw; (try dsimp only at hSw); go_simp; try with_reducible rfl)
                        try simp only [Act.put, List.getElem_toArray, List.getElem_cons_zero, List.getElem_cons_succ, List.setIfInBounds_toArray, List.set_cons_zero, List.set_cons_succ]
                        refine wpAnyH_take (i := 9) (oi := _) (v := ?_) rfl (by kernel_rfl) (by kernel_rfl) (by kernel_rfl) (fun _ _ _ h => h) (Or.inl ⟨by rfl, ?_⟩) (by assumption) ?_
                        rotate_left
                        · (intro w hSw; (try dsimp only at hSw); go_simp; try with_reducible rfl)
                        try simp only [Act.put, List.getElem_toArray, List.getElem_cons_zero, List.getElem_cons_succ, List.setIfInBounds_toArray, List.set_cons_zero, List.set_cons_succ]
                        refine wpAnyH_take (i := 10) (oi := _) (v := ?_) rfl (by kernel_rfl) (by kernel_rfl) (by kernel_rfl) (fun _ _ _ h => h) (Or.inl ⟨by rfl, ?_⟩) (by assumption) ?_
                        rotate_left
                        · (intro w hSw; (try dsimp only at hSw); go_simp; try with_reducible rfl)
                        try simp only [Act.put, List.getElem_toArray, List.getElem_cons_zero, List.getElem_cons_succ, List.setIfInBounds_toArray, List.set_cons_zero, List.set_cons_succ]
                        refine wpAnyH_take (i := 11) (oi := _) (v := ?_) rfl (by kernel_rfl) (by kernel_rfl) (by kernel_rfl) (fun _ _ _ h => h) (Or.inl ⟨by rfl, ?_⟩) (by assumption) ?_
                        rotate_left
                        · (intro w hSw; (try dsimp only at hSw); go_simp; try with_reducible rfl)
                        try simp only [Act.put, List.getElem_toArray, List.getElem_cons_zero, List.getElem_cons_succ, List.setIfInBounds_toArray, List.set_cons_zero, List.set_cons_succ]
                        refine wpAnyH_ready (rs := [13]) (by kernel_rfl) (by simp) ?_
                        refine (AllReadyH.cons (o := _) rfl (fun K hK => ?_) AllReadyH.nil)
                        refine step_store_row (by rfl) 38 _ _ (by rfl) xq (xC P2 (.slice A8 n8 c8)) (by rfl) (by rfl) 38 _ (hs.at 2 rfl) pkI rfl (by simp [Value.oneCell']) ?_
                        replace hs := hs.setR2 (xC P2 (.slice A8 n8 c8))
                        try clear hHeld
                        refine hK.out _ _ (by (try dsimp only); first | exact opKeep hs | exact opKeep (hs.grow _)) (fun hHeld => ?_)
                        clear hK K
                        try simp only [Act.put, List.getElem_toArray, List.getElem_cons_zero, List.getElem_cons_succ, List.setIfInBounds_toArray, List.set_cons_zero, List.set_cons_succ]
                        refine wpAnyH_take (i := 14) (oi := _) (v := ?_) rfl (by kernel_rfl) (by kernel_rfl) (by kernel_rfl) (fun _ _ _ h => h) (Or.inl ⟨by rfl, ?_⟩) (by assumption) ?_
                        rotate_left
                        · (intro w hSw; (try dsimp only at hSw); go_simp; try with_reducible rfl)
                        try simp only [Act.put, List.getElem_toArray, List.getElem_cons_zero, List.getElem_cons_succ, List.setIfInBounds_toArray, List.set_cons_zero, List.set_cons_succ]
                        refine wpAnyH_take (i := 15) (oi := _) (v := ?_) rfl (by kernel_rfl) (by kernel_rfl) (by kernel_rfl) (fun _ _ _ h => h) (Or.inl ⟨by rfl, ?_⟩) (by assumption) ?_
                        rotate_left
                        · (intro w hSw; (try dsimp only at hSw); go_simp; try with_reducible rfl)
                        try simp only [Act.put, List.getElem_toArray, List.getElem_cons_zero, List.getElem_cons_succ, List.setIfInBounds_toArray, List.set_cons_zero, List.set_cons_succ]
                        refine wpAnyH_done (by kernel_rfl) ?_ _
                        go_wp2
                        go_meet
                        exact ⟨rfl, rfl, xq, rfl, J8, f2, P2, A8, c8, n8, HQ.out.1, hs, HQ.out.2.1, HQ.out.2.2⟩
                    · skip
                      go_simp
                      obtain ⟨xq, hxq⟩ : ∃ n, n = W.heap.size := ⟨_, rfl⟩
                      rw [← hxq]
                      try clear hHeld
                      refine hK.out _ _ (by (try dsimp only); first | exact opKeep hs | exact opKeep (hs.grow _)) (fun hHeld => ?_)
                      clear hK K
                      try simp only [Act.put, List.getElem_toArray, List.getElem_cons_zero, List.getElem_cons_succ, List.setIfInBounds_toArray, List.set_cons_zero, List.set_cons_succ]
                      generalize hw : World.alloc W _ = W at hHeld ⊢
                      replace hs := hs.allocTo hw hxq
                      clear hw hxq
                      refine wpAnyH_ready (rs := [3]) (by kernel_rfl) (by simp) ?_
                      refine (AllReadyH.cons (o := _) rfl (fun K hK => ?_) AllReadyH.nil)
                      go_simp
                      refine (packetC J _ W ⟨false, layer, s1, t1, marker, Ax, cx, bs, now⟩ hs).mono ?_
                      clear hs
                      rintro e W ⟨_, _, _, rfl, _, hs, rfl, rfl, rfl⟩
                      try clear hHeld
                      refine hK.out _ _ (by (try dsimp only); first | exact opKeep hs | exact opKeep (hs.grow _)) (fun hHeld => ?_)
                      clear hK K
                      try simp only [Act.put, List.getElem_toArray, List.getElem_cons_zero, List.getElem_cons_succ, List.setIfInBounds_toArray, List.set_cons_zero, List.set_cons_succ]
                      refine wpAnyH_ready (rs := [4]) (by kernel_rfl) (by simp) ?_
                      refine (AllReadyH.cons (o := _) rfl (fun K hK => ?_) AllReadyH.nil)
                      go_simp
                      refine (theirsC J _ W (pk5 ⟨false, layer, s1, t1, marker, Ax, cx, bs, now⟩ (.slice none 0 0) 0) Ax cx bs hs HBY.out hlb).mono ?_
                      clear hs
                      rintro e W ⟨_, _, _, rfl, _, hs, rfl, A5, c5, ev, rfl, rfl⟩
                      obtain ⟨J5, hle5, hs5, hby5⟩ := hs.freezeRow
                      replace hs := hs5
                      have HBY5 := Lib.hid hby5
                      have HLE5 := Lib.hid (HLE.out.trans hle5)
                      clear hs5 hby5 hle5
                      try clear hHeld
                      refine hK.out _ _ (by (try dsimp only); first | exact opKeep hs | exact opKeep (hs.grow _)) (fun hHeld => ?_)
                      clear hK K
                      try simp only [Act.put, List.getElem_toArray, List.getElem_cons_zero, List.getElem_cons_succ, List.setIfInBounds_toArray, List.set_cons_zero, List.set_cons_succ]
                      refine wpAnyH_ready (rs := [7]) (by kernel_rfl) (by simp) ?_
                      refine (AllReadyH.cons (o := _) rfl (fun K hK => ?_) AllReadyH.nil)
                      go_simp
                      refine (pushU J5 _ W p f ⟨marker, 5, s1, t1, 9, .slice none 0 0, ev, 3⟩ A5 c5 bs kk now f1 sent ask HPU.out hs HBY5.out hlb hok ⟨HP2.out.seq, HP2.out.time⟩ on).mono ?_
                      clear hs
                      rintro e W ⟨J8, f2, P2, A8, c8, n8, rfl, hle8, hs, hyes, hno⟩
                      have HQ := Lib.hid (And.intro (HLE5.out.trans hle8) (And.intro hyes hno))
                      clear hle8 hyes hno
                      try clear hHeld
                      refine hK.out _ _ (by (try dsimp only); first | exact opKeep hs | exact opKeep (hs.grow _)) (fun hHeld => ?_)
                      clear hK K
                      try simp only [Act.put, List.getElem_toArray, List.getElem_cons_zero, List.getElem_cons_succ, List.setIfInBounds_toArray, List.set_cons_zero, List.set_cons_succ]
                      refine wpAnyH_take (i := 8) (oi := _) (v := ?_) rfl (by kernel_rfl) (by kernel_rfl) (by kernel_rfl) (fun _ _ _ h => h) (Or.inl ⟨by rfl, ?_⟩) (by assumption) ?_
                      rotate_left
                      · (intro w hSw; (try dsimp only at hSw); go_simp; try with_reducible rfl)
                      try simp only [Act.put, List.getElem_toArray, List.getElem_cons_zero, List.getElem_cons_succ, List.setIfInBounds_toArray, List.set_cons_zero, List.set_cons_succ]
                      refine wpAnyH_take (i := 9) (oi := _) (v := ?_) rfl (by kernel_rfl) (by kernel_rfl) (by kernel_rfl) (fun _ _ _ h => h) (Or.inl ⟨by rfl, ?_⟩) (by assumption) ?_
                      rotate_left
                      · (intro w hSw; (try dsimp only at hSw); go_simp; try with_reducible rfl)
                      try simp only [Act.put, List.getElem_toArray, List.getElem_cons_zero, List.getElem_cons_succ, List.setIfInBounds_toArray, List.set_cons_zero, List.set_cons_succ]
                      refine wpAnyH_take (i := 10) (oi := _) (v := ?_) rfl (by kernel_rfl) (by kernel_rfl) (by kernel_rfl) (fun _ _ _ h => h) (Or.inl ⟨by rfl, ?_⟩) (by assumption) ?_
                      rotate_left
                      · (intro w hSw; (try dsimp only at hSw); go_simp; try with_reducible rfl)
                      try simp only [Act.put, List.getElem_toArray, List.getElem_cons_zero, List.getElem_cons_succ, List.setIfInBounds_toArray, List.set_cons_zero, List.set_cons_succ]
                      refine wpAnyH_take (i := 11) (oi := _) (v := ?_) rfl (by kernel_rfl) (by kernel_rfl) (by kernel_rfl) (fun _ _ _ h => h) (Or.inl ⟨by rfl, ?_⟩) (by assumption) ?_
                      rotate_left
                      · (intro w hSw; (try dsimp only at hSw); go_simp; try with_reducible rfl)
                      try simp only [Act.put, List.getElem_toArray, List.getElem_cons_zero, List.getElem_cons_succ, List.setIfInBounds_toArray, List.set_cons_zero, List.set_cons_succ]
                      refine wpAnyH_ready (rs := [13]) (by kernel_rfl) (by simp) ?_
                      refine (AllReadyH.cons (o := _) rfl (fun K hK => ?_) AllReadyH.nil)
                      refine step_store_row (by rfl) 38 _ _ (by rfl) xq (xC P2 (.slice A8 n8 c8)) (by rfl) (by rfl) 38 _ (hs.at 2 rfl) pkI rfl (by simp [Value.oneCell']) ?_
                      replace hs := hs.setR2 (xC P2 (.slice A8 n8 c8))
                      try clear hHeld
                      refine hK.out _ _ (by (try dsimp only); first | exact opKeep hs | exact opKeep (hs.grow _)) (fun hHeld => ?_)
                      clear hK K
                      try simp only [Act.put, List.getElem_toArray, List.getElem_cons_zero, List.getElem_cons_succ, List.setIfInBounds_toArray, List.set_cons_zero, List.set_cons_succ]
                      refine wpAnyH_take (i := 14) (oi := _) (v := ?_) rfl (by kernel_rfl) (by kernel_rfl) (by kernel_rfl) (fun _ _ _ h => h) (Or.inl ⟨by rfl, ?_⟩) (by assumption) ?_
                      rotate_left
                      · (intro w hSw; (try dsimp only at hSw); go_simp; try with_reducible rfl)
                      try simp only [Act.put, List.getElem_toArray, List.getElem_cons_zero, List.getElem_cons_succ, List.setIfInBounds_toArray, List.set_cons_zero, List.set_cons_succ]
                      refine wpAnyH_take (i := 15) (oi := _) (v := ?_) rfl (by kernel_rfl) (by kernel_rfl) (by kernel_rfl) (fun _ _ _ h => h) (Or.inl ⟨by rfl, ?_⟩) (by assumption) ?_
                      rotate_left
                      · (intro w hSw; (try dsimp only at hSw); go_simp; try with_reducible rfl)
                      try simp only [Act.put, List.getElem_toArray, List.getElem_cons_zero, List.getElem_cons_succ, List.setIfInBounds_toArray, List.set_cons_zero, List.set_cons_succ]
                      refine wpAnyH_done (by kernel_rfl) ?_ _
                      go_wp2
                      go_meet
                      exact ⟨rfl, rfl, xq, rfl, J8, f2, P2, A8, c8, n8, HQ.out.1, hs, HQ.out.2.1, HQ.out.2.2⟩
                  case rest =>
                    obtain ⟨rfl, rfl, xq, rfl, J8, f2, P2, A2, c2, n2, hle8, hs, hyes, hno⟩ := hcut
                    have H8 := Lib.hid (And.intro hle8 hs)
                    clear HST hcO hfO hltO hle8
                    cases sent
                    · have hf2 := hno rfl
                      subst hf2
                      have hT2 := HTP.out.1 rfl
                      rw [HET.out] at hT2
                      have HT2 := Lib.hid hT2
                      clear hs hyes hno hT2
                      go_wp2
                      go_roundw
                      case rel => exact ⟨k + 1, f2, _, _, last, sb, by omega, by go_num, rfl, rfl, HT2.out, J8, H8.out.1, H8.out.2.swap2.drop.drop⟩
                      case measure => simp [intOf]; omega
                    · obtain ⟨rfl, rfl, rfl⟩ := hyes rfl
                      obtain ⟨hcX, _, _⟩ := Blk.all (hs.at 2 rfl)
                      obtain ⟨hT2, hd⟩ := HTP.out.2 rfl
                      rw [HET.out] at hT2
                      have ext : (outP f1 (pk5 ⟨false, layer, s1, t1, marker, Ax, cx, bs, now⟩ (.slice none 0 0) 0)).time = ((pk5 ⟨false, layer, s1, t1, marker, Ax, cx, bs, now⟩ (.slice none 0 0) 0).time + f1.offset) % 4294967296 := rfl
                      obtain ⟨xt, hxt⟩ : ∃ xt, xt = ((pk5 ⟨false, layer, s1, t1, marker, Ax, cx, bs, now⟩ (.slice none 0 0) 0).time + f1.offset) % 4294967296 := ⟨_, rfl⟩
                      rw [← hxt] at hT2 hd ext
                      have hx3 : wc.cell? ⟨xq, 3, none⟩ = some (.int .u32 xt) := by rw [hcX, ← ext]; rfl
                      have HT2 := Lib.hid hT2
                      clear hs hyes hno hT2 hcX ext hxt
                      cases sb
                      · clear hd
                        go_wp2
                        go_roundw
                        case rel => exact ⟨k + 1, _, _, _, xt, true, by omega, by go_num, rfl, rfl, HT2.out, J8, H8.out.1, H8.out.2.swap2.drop.drop⟩
                        case measure => simp [intOf]; omega
                      · obtain ⟨hd0, hd1⟩ := hd rfl
                        obtain ⟨d, hdd⟩ : ∃ d, d = (xt - last) % 4294967296 := ⟨_, rfl⟩
                        have hd2 : IntKind.u32.wrap (xt - last) = d := by rw [u32_mod, hdd]
                        rw [← hdd] at hd0 hd1
                        clear hd hdd
                        go_wp2
                        go_roundw
                        case rel => exact ⟨k + 1, _, _, _, xt, true, by omega, by go_num, rfl, rfl, HT2.out, J8, H8.out.1, H8.out.2.swap2.drop.drop⟩
                        case measure => simp [intOf]; omega
            · have hk3 : (200 : Int) ≤ k := by omega
              have H15 := Lib.hid (And.intro HLE.out hst15)
              clear hst15
              go_wp2
              go_returns
              exact Ret.mk H15.out.1 H15.out.2.drop.drop.drop.drop.drop ⟨rfl, rfl⟩
        · go_wp2_with fail
          refine (chooseC J _ _ p f kk HST.out).mono ?_
          clear hcO hfO hltO
          rintro e w4 ⟨_, _, _, rfl, _, hst4, rfl, rfl, rfl⟩
          have H4 := Lib.hid hst4.swap1.drop
          have HTN := Lib.hid (HT.out.pick (n := kk) (by omega))
          clear hst4 HST
          go_wp2
          go_roundw
          case rel => exact ⟨k + 1, chooseF f kk, ss, ts, last, sb, by omega, by go_num, rfl, rfl, HTN.out, J, HLE.out, H4.out⟩
          case measure => simp [intOf]; omega
    · have H2 := Lib.hid (And.intro hle hst)
      have hk' : k = xs.length := by omega
      subst hk'
      clear hle hst hlt
      go_wp2
      go_returns
      exact Ret.mk H2.out.1 H2.out.2.drop.drop.drop.drop ⟨rfl, rfl⟩
end Go.Proofs.Ytaemohkmingnpaa
