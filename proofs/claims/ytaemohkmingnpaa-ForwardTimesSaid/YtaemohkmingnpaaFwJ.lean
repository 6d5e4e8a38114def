/- ForwardFresh. -/
import Derived.Test.YtaemohkmingnpaaFwI
namespace Go.Proofs.Ytaemohkmingnpaa
open Go.RowKit
set_option linter.unusedSimpArgs false

theorem frS_codec {f : Fl} {bs : List UInt8} {b1 b2 : Bool} (h : beginsS f.codec bs = (b1, b2)) : frS f bs = (b1 && b2) := by unfold frS; rw [h]
/-- what is sent is of the layer that was asked for; it goes on from the last one, or stands alone -/
theorem pushS_fresh {f f1 : Fl} {layer : Int} {P : Pk} {bs : List UInt8} {now : Int} {s a : Bool} (h : pushS f layer P bs now = (f1, s, a)) : (s = true → f1.layer = layer ∧ 0 ≤ layer ∧ (frS f bs = false → layer = f.layer ∧ P.seq = (f.last + 1) % 65536)) ∧ (s = false → f1.layer = f.layer) := by
  unfold pushS at h
  split at h
  · injection h with h1 h2; injection h2 with h2 h3; subst h1 h2 h3
    exact ⟨fun h => (by cases h), fun _ => rfl⟩
  · rename_i hn
    split at h
    · split at h
      · rename_i hf
        injection h with h1 h2; injection h2 with h2 h3; subst h1 h2 h3
        exact ⟨fun _ => ⟨rfl, by omega, fun h => by rw [h] at hf; cases hf⟩, fun h => (by cases h)⟩
      · injection h with h1 h2; injection h2 with h2 h3; subst h1 h2 h3
        exact ⟨fun h => (by cases h), fun _ => rfl⟩
    · rename_i he
      split at h
      · injection h with h1 h2; injection h2 with h2 h3; subst h1 h2 h3
        exact ⟨fun h => (by cases h), fun _ => rfl⟩
      · split at h
        · injection h with h1 h2; injection h2 with h2 h3; subst h1 h2 h3
          exact ⟨fun h => (by cases h), fun _ => rfl⟩
        · rename_i hx
          injection h with h1 h2; injection h2 with h2 h3; subst h1 h2 h3
          refine ⟨fun _ => ⟨show f.layer = layer by omega, by omega, fun hf => ⟨by omega, ?_⟩⟩, fun h => (by cases h)⟩
          apply Classical.byContradiction
          intro hne
          exact hx ⟨hf, .inr hne⟩
set_option maxRecDepth 8000 in
set_option maxHeartbeats 8000000 in
theorem law6 (I : Img) (M : List Res) (w : World) (m : Md) (A : Option Addr) (c : Nat) (xs : List OpD) (hst : St I M w) (hm : m.ok) (hB : Ops I A xs) (hlx : xs.length ≤ 140737488351232) :
    Calls Try.prog 6 #[.agg (mdC m), .slice A xs.length c] w (Yes I M) := by
  have HB := Lib.hid hB
  have hst1 := hst.alloc 25 (mdC m)
  clear hst hB
  go_enter Try.func6, Try.ntmps6
  go_wp2_with fail
  refine (awakeC I _ _ hst1).mono ?_
  clear hst1
  rintro e w1 ⟨_, J, _, rfl, hle, hst1, rfl, rfl⟩
  obtain ⟨hc3, hf3, hlt3⟩ := Blk.all hst1.head
  have H1 := Lib.hid hst1
  clear hst1
  go_wp2_with fail
  refine (beginC J _ _ m H1.out).mono ?_
  clear H1 hc3 hf3 hlt3
  rintro e w2 ⟨_, _, _, rfl, hle2, hst2, rfl, p, r, rfl, rfl⟩
  have H2 := Lib.hid (And.intro hle hst2.drop)
  obtain ⟨hc4, hf4, hlt4⟩ := Blk.all (hst2.at 2 rfl)
  clear hst2 hle2 hle
  go_wp2_with fail
  clear hc4 hf4 hlt4
  go_loopw [7, 8, 25] (fun cv lv iv wr => ∃ (k : Nat) (f : Fl) (last : Int), k ≤ xs.length ∧ iv = .int .i64 k ∧ cv = .int .i64 f.layer ∧ lv = .int .u16 last ∧ Hid (f.ok ∧ f.codec = m.codec ∧ (0 ≤ f.layer → f.last = last) ∧ ∃ J, I.le J ∧ St J (bk p 64 (flC f) :: bk w.heap.size 25 (mdC m) :: M) wr)) (fun _ _ iv _ => xs.length - (intOf iv).toNat)
  case atStart => exact ⟨0, fl0 m, 0, by omega, rfl, rfl, rfl, fl0_ok hm, rfl, fun h => by have : (0 : Int) ≤ -1 := h; omega, J, H2.out.1, H2.out.2⟩
  case round =>
    obtain ⟨k, f, last, hk, rfl, rfl, rfl, hh⟩ := hrel
    obtain ⟨hok, hcd, hla, J, hle, hst⟩ := hh.out
    clear hh H2
    by_cases hlt : k < xs.length
    · obtain ⟨x, hx⟩ : ∃ x, x = xs[k] := ⟨_, rfl⟩
      obtain ⟨g, o, rfl, hc⟩ := HB.out (by omega)
      obtain ⟨hcell, hby, hlb, hxo⟩ := hc k hlt
      rw [← hx] at hcell hby hlb hxo
      clear hc hx
      obtain ⟨pick, layer, seq, time, marker, Ax, cx, bs, now⟩ := x
      obtain ⟨ol, os, ot, on⟩ := hxo
      dsimp only at hcell hby hlb ol os ot on
      have z0 : wr.cell? ⟨g, o + k * 7, none⟩ = some (.bool pick) := hst.cell (hle.cell (hcell 0 (by decide)))
      have z1 : wr.cell? ⟨g, o + k * 7 + 1, none⟩ = some (.int .i64 layer) := hst.cell (hle.cell (hcell 1 (by decide)))
      have z2 : wr.cell? ⟨g, o + k * 7 + 2, none⟩ = some (.int .u16 seq) := hst.cell (hle.cell (hcell 2 (by decide)))
      have z3 : wr.cell? ⟨g, o + k * 7 + 3, none⟩ = some (.int .u32 time) := hst.cell (hle.cell (hcell 3 (by decide)))
      have z4 : wr.cell? ⟨g, o + k * 7 + 4, none⟩ = some (.bool marker) := hst.cell (hle.cell (hcell 4 (by decide)))
      have z5 : wr.cell? ⟨g, o + k * 7 + 5, none⟩ = some (.slice Ax bs.length cx) := hst.cell (hle.cell (hcell 5 (by decide)))
      have z6 : wr.cell? ⟨g, o + k * 7 + 6, none⟩ = some (.int .i64 now) := hst.cell (hle.cell (hcell 6 (by decide)))
      have hst3 := (hst.alloc 44 (opC ⟨pick, layer, seq, time, marker, Ax, cx, bs, now⟩)).swap1
      have HST := Lib.hid hst3
      have HBY := Lib.hid (hby.mono hle)
      have HLE := Lib.hid hle
      have HF := Lib.hid (And.intro hcd hla)
      have HBI := Lib.hid hby
      clear hcell hby hle hst hst3 hcd hla
      cases pick
      · rcases hpu : pushS f layer (pk5 ⟨false, layer, seq, time, marker, Ax, cx, bs, now⟩ (.slice none 0 0) 0) bs now with ⟨f1, sent, ask⟩
        have HPU := Lib.hid hpu
        clear hpu
        go_upto_region 12 with fail
        generalize hW : World.alloc wr _ = W at HST ⊢
        go_cut [11, 12, 13] (fun v11 v12 v13 wx => v12 = .bool sent ∧ v13 = .bool ask ∧ ∃ xq, v11 = .pointer (some ⟨xq, 0, none⟩) ∧ PushCut I (bk w.heap.size 25 (mdC m) :: M) p wr.heap.size f f1 ⟨false, layer, seq, time, marker, Ax, cx, bs, now⟩ sent xq wx)
        case first =>
          have hs := HST.out.drew
          clear HST z0 z1 z2 z3 z4 z5 z6 hW
          refine wp_region_held_drew (S := (fun w' => w'.cell? ⟨wr.heap.size, 0, none⟩ = some (.bool false) ∧ w'.cell? ⟨wr.heap.size, 1, none⟩ = some (.int .i64 layer) ∧ w'.cell? ⟨wr.heap.size, 2, none⟩ = some (.int .u16 seq) ∧ w'.cell? ⟨wr.heap.size, 3, none⟩ = some (.int .u32 time) ∧ w'.cell? ⟨wr.heap.size, 4, none⟩ = some (.bool marker) ∧ w'.cell? ⟨wr.heap.size, 5, none⟩ = some (.slice Ax bs.length cx) ∧ w'.cell? ⟨wr.heap.size, 6, none⟩ = some (.int .i64 now))) (by kernel_rfl) (by (try dsimp only); first | exact opKeep hs | exact opKeep (hs.grow _)) (fun hHeld => ?_)
          generalize World.drew W = W at hs hHeld ⊢
          refine wpAnyH_take (i := 0) (oi := _) (v := ?_) rfl (by kernel_rfl) (by kernel_rfl) (by kernel_rfl) (fun _ _ _ h => h) (Or.inl ⟨by rfl, ?_⟩) (by assumption) ?_
          rotate_left
          · (intro w hSw; (try dsimp only at hSw); go_simp; try with_reducible rfl)
          try simp only [Act.put, List.getElem_toArray, List.getElem_cons_zero, List.getElem_cons_succ, List.setIfInBounds_toArray, List.set_cons_zero, List.set_cons_succ]
          refine wpAnyH_take (i := 1) (oi := _) (v := ?_) rfl (by kernel_rfl) (by kernel_rfl) (by kernel_rfl) (fun _ _ _ h => h) (Or.inl ⟨by rfl, ?_⟩) (by assumption) ?_
          rotate_left
          · (intro w hSw; (try dsimp only at hSw); go_simp; try with_reducible rfl)
          try simp only [Act.put, List.getElem_toArray, List.getElem_cons_zero, List.getElem_cons_succ, List.setIfInBounds_toArray, List.set_cons_zero, List.set_cons_succ]
          refine wpAnyH_take (i := 2) (oi := _) (v := ?_) rfl (by kernel_rfl) (by kernel_rfl) (by kernel_rfl) (fun _ _ _ h => h) (Or.inl ⟨by rfl, ?_⟩) (by assumption) ?_
          rotate_left
          · (intro w hSw; (try dsimp only at hSw); go_simp; try with_reducible rfl)
          try simp only [Act.put, List.getElem_toArray, List.getElem_cons_zero, List.getElem_cons_succ, List.setIfInBounds_toArray, List.set_cons_zero, List.set_cons_succ]
          refine wpAnyH_take (i := 3) (oi := _) (v := ?_) rfl (by kernel_rfl) (by kernel_rfl) (by kernel_rfl) (fun _ _ _ h => h) (Or.inl ⟨by rfl, ?_⟩) (by assumption) ?_
          rotate_left
          · (intro w hSw; (try dsimp only at hSw); go_simp; try with_reducible rfl)
          try simp only [Act.put, List.getElem_toArray, List.getElem_cons_zero, List.getElem_cons_succ, List.setIfInBounds_toArray, List.set_cons_zero, List.set_cons_succ]
          refine wpAnyH_take (i := 6) (oi := _) (v := ?_) rfl (by kernel_rfl) (by kernel_rfl) (by kernel_rfl) (fun _ _ _ h => h) (Or.inl ⟨by rfl, ?_⟩) (by assumption) ?_
          rotate_left
          · (intro w hSw; (try dsimp only at hSw); go_simp; try with_reducible rfl)
          try simp only [Act.put, List.getElem_toArray, List.getElem_cons_zero, List.getElem_cons_succ, List.setIfInBounds_toArray, List.set_cons_zero, List.set_cons_succ]
          refine wpAnyH_take (i := 7) (oi := _) (v := ?_) rfl (by kernel_rfl) (by kernel_rfl) (by kernel_rfl) (fun _ _ _ h => h) (Or.inl ⟨by rfl, ?_⟩) (by assumption) ?_
          rotate_left
          · (intro w hSw; (try dsimp only at hSw); go_simp; try with_reducible rfl)
          try simp only [Act.put, List.getElem_toArray, List.getElem_cons_zero, List.getElem_cons_succ, List.setIfInBounds_toArray, List.set_cons_zero, List.set_cons_succ]
          refine wpAnyH_ready (rs := [4, 13]) (by kernel_rfl) (by simp) ?_
          refine (AllReadyH.cons (o := _) rfl (fun K hK => ?_) (AllReadyH.cons (o := _) rfl (fun K hK => ?_) AllReadyH.nil))
          · skip
            go_simp
            refine (packetC J _ W ⟨false, layer, seq, time, marker, Ax, cx, bs, now⟩ hs).mono ?_
            clear hs
            rintro e W ⟨_, _, _, rfl, _, hs, rfl, rfl, rfl⟩
            try clear hHeld
            refine hK.out _ _ (by (try dsimp only); first | exact opKeep hs | exact opKeep (hs.grow _)) (fun hHeld => ?_)
            clear hK K
            try simp only [Act.put, List.getElem_toArray, List.getElem_cons_zero, List.getElem_cons_succ, List.setIfInBounds_toArray, List.set_cons_zero, List.set_cons_succ]
            refine wpAnyH_ready (rs := [5, 13]) (by kernel_rfl) (by simp) ?_
            refine (AllReadyH.cons (o := _) rfl (fun K hK => ?_) (AllReadyH.cons (o := _) rfl (fun K hK => ?_) AllReadyH.nil))
            · skip
              go_simp
              refine (theirsC J _ W (pk5 ⟨false, layer, seq, time, marker, Ax, cx, bs, now⟩ (.slice none 0 0) 0) Ax cx bs hs HBY.out hlb).mono ?_
              clear hs
              rintro e W ⟨_, _, _, rfl, _, hs, rfl, A5, c5, ev, rfl, rfl⟩
              obtain ⟨J5, hle5, hs5, hby5⟩ := hs.freezeRow
              replace hs := hs5
              have HBY5 := Lib.hid hby5
              have HLE5 := Lib.hid (HLE.out.trans hle5)
              clear hs5 hby5 hle5
              try clear hHeld
              refine hK.out _ _ (by (try dsimp only); first | exact opKeep hs | exact opKeep (hs.grow _)) (fun hHeld => ?_)
              clear hK K
              try simp only [Act.put, List.getElem_toArray, List.getElem_cons_zero, List.getElem_cons_succ, List.setIfInBounds_toArray, List.set_cons_zero, List.set_cons_succ]
              refine wpAnyH_ready (rs := [8, 13]) (by kernel_rfl) (by simp) ?_
              refine (AllReadyH.cons (o := _) rfl (fun K hK => ?_) (AllReadyH.cons (o := _) rfl (fun K hK => ?_) AllReadyH.nil))
              · skip
                go_simp
                refine (pushU J5 _ W p f ⟨marker, 5, seq, time, 9, .slice none 0 0, ev, 3⟩ A5 c5 bs layer now f1 sent ask HPU.out hs HBY5.out hlb hok ⟨os, ot⟩ on).mono ?_
                clear hs
                rintro e W ⟨J8, f2, P2, A8, c8, n8, rfl, hle8, hs, hyes, hno⟩
                have HQ := Lib.hid (And.intro (HLE5.out.trans hle8) (And.intro hyes hno))
                clear hle8 hyes hno
                try clear hHeld
                refine hK.out _ _ (by (try dsimp only); first | exact opKeep hs | exact opKeep (hs.grow _)) (fun hHeld => ?_)
                clear hK K
                try simp only [Act.put, List.getElem_toArray, List.getElem_cons_zero, List.getElem_cons_succ, List.setIfInBounds_toArray, List.set_cons_zero, List.set_cons_succ]
                refine wpAnyH_take (i := 9) (oi := _) (v := ?_) rfl (by kernel_rfl) (by kernel_rfl) (by kernel_rfl) (fun _ _ _ h => h) (Or.inl ⟨by rfl, ?_⟩) (by assumption) ?_
                rotate_left
                · (intro w hSw; (try dsimp only at hSw); go_simp; try with_reducible rfl)
                try simp only [Act.put, List.getElem_toArray, List.getElem_cons_zero, List.getElem_cons_succ, List.setIfInBounds_toArray, List.set_cons_zero, List.set_cons_succ]
                refine wpAnyH_take (i := 10) (oi := _) (v := ?_) rfl (by kernel_rfl) (by kernel_rfl) (by kernel_rfl) (fun _ _ _ h => h) (Or.inl ⟨by rfl, ?_⟩) (by assumption) ?_
                rotate_left
                · (intro w hSw; (try dsimp only at hSw); go_simp; try with_reducible rfl)
                try simp only [Act.put, List.getElem_toArray, List.getElem_cons_zero, List.getElem_cons_succ, List.setIfInBounds_toArray, List.set_cons_zero, List.set_cons_succ]
                refine wpAnyH_take (i := 11) (oi := _) (v := ?_) rfl (by kernel_rfl) (by kernel_rfl) (by kernel_rfl) (fun _ _ _ h => h) (Or.inl ⟨by rfl, ?_⟩) (by assumption) ?_
                rotate_left
                · (intro w hSw; (try dsimp only at hSw); go_simp; try with_reducible rfl)
                try simp only [Act.put, List.getElem_toArray, List.getElem_cons_zero, List.getElem_cons_succ, List.setIfInBounds_toArray, List.set_cons_zero, List.set_cons_succ]
                refine wpAnyH_take (i := 12) (oi := _) (v := ?_) rfl (by kernel_rfl) (by kernel_rfl) (by kernel_rfl) (fun _ _ _ h => h) (Or.inl ⟨by rfl, ?_⟩) (by assumption) ?_
                rotate_left
                · (intro w hSw; (try dsimp only at hSw); go_simp; try with_reducible rfl)
                try simp only [Act.put, List.getElem_toArray, List.getElem_cons_zero, List.getElem_cons_succ, List.setIfInBounds_toArray, List.set_cons_zero, List.set_cons_succ]
                refine wpAnyH_ready (rs := [13]) (by kernel_rfl) (by simp) ?_
                refine (AllReadyH.cons (o := _) rfl (fun K hK => ?_) AllReadyH.nil)
                go_simp
                obtain ⟨xq, hxq⟩ : ∃ n, n = W.heap.size := ⟨_, rfl⟩
                rw [← hxq]
                try clear hHeld
                refine hK.out _ _ (by (try dsimp only); first | exact opKeep hs | exact opKeep (hs.grow _)) (fun hHeld => ?_)
                clear hK K
                try simp only [Act.put, List.getElem_toArray, List.getElem_cons_zero, List.getElem_cons_succ, List.setIfInBounds_toArray, List.set_cons_zero, List.set_cons_succ]
                generalize hw : World.alloc W _ = W at hHeld ⊢
                replace hs := hs.allocTo hw hxq
                clear hw hxq
                refine wpAnyH_ready (rs := [14]) (by kernel_rfl) (by simp) ?_
                refine (AllReadyH.cons (o := _) rfl (fun K hK => ?_) AllReadyH.nil)
                refine step_store_row (by rfl) 38 _ _ (by rfl) xq (xC P2 (.slice A8 n8 c8)) (by rfl) (by rfl) 38 _ (hs.at 2 rfl) pkI rfl (by simp [Value.oneCell']) ?_
                replace hs := hs.setR2 (xC P2 (.slice A8 n8 c8))
                try clear hHeld
                refine hK.out _ _ (by (try dsimp only); first | exact opKeep hs | exact opKeep (hs.grow _)) (fun hHeld => ?_)
                clear hK K
                try simp only [Act.put, List.getElem_toArray, List.getElem_cons_zero, List.getElem_cons_succ, List.setIfInBounds_toArray, List.set_cons_zero, List.set_cons_succ]
                refine wpAnyH_take (i := 15) (oi := _) (v := ?_) rfl (by kernel_rfl) (by kernel_rfl) (by kernel_rfl) (fun _ _ _ h => h) (Or.inl ⟨by rfl, ?_⟩) (by assumption) ?_
                rotate_left
                · (intro w hSw; (try dsimp only at hSw); go_simp; try with_reducible rfl)
                try simp only [Act.put, List.getElem_toArray, List.getElem_cons_zero, List.getElem_cons_succ, List.setIfInBounds_toArray, List.set_cons_zero, List.set_cons_succ]
                refine wpAnyH_take (i := 16) (oi := _) (v := ?_) rfl (by kernel_rfl) (by kernel_rfl) (by kernel_rfl) (fun _ _ _ h => h) (Or.inl ⟨by rfl, ?_⟩) (by assumption) ?_
                rotate_left
                · (intro w hSw; (try dsimp only at hSw); go_simp; try with_reducible rfl)
                try simp only [Act.put, List.getElem_toArray, List.getElem_cons_zero, List.getElem_cons_succ, List.setIfInBounds_toArray, List.set_cons_zero, List.set_cons_succ]
                refine wpAnyH_done (by kernel_rfl) ?_ _
                go_wp2
                go_meet
                exact ⟨rfl, rfl, xq, rfl, J8, f2, P2, A8, c8, n8, HQ.out.1, hs, HQ.out.2.1, HQ.out.2.2⟩
              · skip
                go_simp
                obtain ⟨xq, hxq⟩ : ∃ n, n = W.heap.size := ⟨_, rfl⟩
                rw [← hxq]
                try clear hHeld
                refine hK.out _ _ (by (try dsimp only); first | exact opKeep hs | exact opKeep (hs.grow _)) (fun hHeld => ?_)
                clear hK K
                try simp only [Act.put, List.getElem_toArray, List.getElem_cons_zero, List.getElem_cons_succ, List.setIfInBounds_toArray, List.set_cons_zero, List.set_cons_succ]
                generalize hw : World.alloc W _ = W at hHeld ⊢
                replace hs := hs.allocTo hw hxq
                clear hw hxq
                refine wpAnyH_ready (rs := [8]) (by kernel_rfl) (by simp) ?_
                refine (AllReadyH.cons (o := _) rfl (fun K hK => ?_) AllReadyH.nil)
                go_simp
                refine (pushU J5 _ W p f ⟨marker, 5, seq, time, 9, .slice none 0 0, ev, 3⟩ A5 c5 bs layer now f1 sent ask HPU.out hs HBY5.out hlb hok ⟨os, ot⟩ on).mono ?_
                clear hs
                rintro e W ⟨J8, f2, P2, A8, c8, n8, rfl, hle8, hs, hyes, hno⟩
                have HQ := Lib.hid (And.intro (HLE5.out.trans hle8) (And.intro hyes hno))
                clear hle8 hyes hno
                try clear hHeld
                refine hK.out _ _ (by (try dsimp only); first | exact opKeep hs | exact opKeep (hs.grow _)) (fun hHeld => ?_)
                clear hK K
                try simp only [Act.put, List.getElem_toArray, List.getElem_cons_zero, List.getElem_cons_succ, List.setIfInBounds_toArray, List.set_cons_zero, List.set_cons_succ]
                refine wpAnyH_take (i := 9) (oi := _) (v := ?_) rfl (by kernel_rfl) (by kernel_rfl) (by kernel_rfl) (fun _ _ _ h => h) (Or.inl ⟨by rfl, ?_⟩) (by assumption) ?_
                rotate_left
                · (intro w hSw; (try dsimp only at hSw); go_simp; try with_reducible rfl)
                try simp only [Act.put, List.getElem_toArray, List.getElem_cons_zero, List.getElem_cons_succ, List.setIfInBounds_toArray, List.set_cons_zero, List.set_cons_succ]
                refine wpAnyH_take (i := 10) (oi := _) (v := ?_) rfl (by kernel_rfl) (by kernel_rfl) (by kernel_rfl) (fun _ _ _ h => h) (Or.inl ⟨by rfl, ?_⟩) (by assumption) ?_
                rotate_left
                · (intro w hSw; (try dsimp only at hSw); go_simp; try with_reducible rfl)
                try simp only [Act.put, List.getElem_toArray, List.getElem_cons_zero, List.getElem_cons_succ, List.setIfInBounds_toArray, List.set_cons_zero, List.set_cons_succ]
                refine wpAnyH_take (i := 11) (oi := _) (v := ?_) rfl (by kernel_rfl) (by kernel_rfl) (by kernel_rfl) (fun _ _ _ h => h) (Or.inl ⟨by rfl, ?_⟩) (by assumption) ?_
                rotate_left
                · (intro w hSw; (try dsimp only at hSw); go_simp; try with_reducible rfl)
                try simp only [Act.put, List.getElem_toArray, List.getElem_cons_zero, List.getElem_cons_succ, List.setIfInBounds_toArray, List.set_cons_zero, List.set_cons_succ]
                refine wpAnyH_take (i := 12) (oi := _) (v := ?_) rfl (by kernel_rfl) (by kernel_rfl) (by kernel_rfl) (fun _ _ _ h => h) (Or.inl ⟨by rfl, ?_⟩) (by assumption) ?_
                rotate_left
                · (intro w hSw; (try dsimp only at hSw); go_simp; try with_reducible rfl)
                try simp only [Act.put, List.getElem_toArray, List.getElem_cons_zero, List.getElem_cons_succ, List.setIfInBounds_toArray, List.set_cons_zero, List.set_cons_succ]
                refine wpAnyH_ready (rs := [14]) (by kernel_rfl) (by simp) ?_
                refine (AllReadyH.cons (o := _) rfl (fun K hK => ?_) AllReadyH.nil)
                refine step_store_row (by rfl) 38 _ _ (by rfl) xq (xC P2 (.slice A8 n8 c8)) (by rfl) (by rfl) 38 _ (hs.at 2 rfl) pkI rfl (by simp [Value.oneCell']) ?_
                replace hs := hs.setR2 (xC P2 (.slice A8 n8 c8))
                try clear hHeld
                refine hK.out _ _ (by (try dsimp only); first | exact opKeep hs | exact opKeep (hs.grow _)) (fun hHeld => ?_)
                clear hK K
                try simp only [Act.put, List.getElem_toArray, List.getElem_cons_zero, List.getElem_cons_succ, List.setIfInBounds_toArray, List.set_cons_zero, List.set_cons_succ]
                refine wpAnyH_take (i := 15) (oi := _) (v := ?_) rfl (by kernel_rfl) (by kernel_rfl) (by kernel_rfl) (fun _ _ _ h => h) (Or.inl ⟨by rfl, ?_⟩) (by assumption) ?_
                rotate_left
                · (intro w hSw; (try dsimp only at hSw); go_simp; try with_reducible rfl)
                try simp only [Act.put, List.getElem_toArray, List.getElem_cons_zero, List.getElem_cons_succ, List.setIfInBounds_toArray, List.set_cons_zero, List.set_cons_succ]
                refine wpAnyH_take (i := 16) (oi := _) (v := ?_) rfl (by kernel_rfl) (by kernel_rfl) (by kernel_rfl) (fun _ _ _ h => h) (Or.inl ⟨by rfl, ?_⟩) (by assumption) ?_
                rotate_left
                · (intro w hSw; (try dsimp only at hSw); go_simp; try with_reducible rfl)
                try simp only [Act.put, List.getElem_toArray, List.getElem_cons_zero, List.getElem_cons_succ, List.setIfInBounds_toArray, List.set_cons_zero, List.set_cons_succ]
                refine wpAnyH_done (by kernel_rfl) ?_ _
                go_wp2
                go_meet
                exact ⟨rfl, rfl, xq, rfl, J8, f2, P2, A8, c8, n8, HQ.out.1, hs, HQ.out.2.1, HQ.out.2.2⟩
            · skip
              go_simp
              obtain ⟨xq, hxq⟩ : ∃ n, n = W.heap.size := ⟨_, rfl⟩
              rw [← hxq]
              try clear hHeld
              refine hK.out _ _ (by (try dsimp only); first | exact opKeep hs | exact opKeep (hs.grow _)) (fun hHeld => ?_)
              clear hK K
              try simp only [Act.put, List.getElem_toArray, List.getElem_cons_zero, List.getElem_cons_succ, List.setIfInBounds_toArray, List.set_cons_zero, List.set_cons_succ]
              generalize hw : World.alloc W _ = W at hHeld ⊢
              replace hs := hs.allocTo hw hxq
              clear hw hxq
              refine wpAnyH_ready (rs := [5]) (by kernel_rfl) (by simp) ?_
              refine (AllReadyH.cons (o := _) rfl (fun K hK => ?_) AllReadyH.nil)
              go_simp
              refine (theirsC J _ W (pk5 ⟨false, layer, seq, time, marker, Ax, cx, bs, now⟩ (.slice none 0 0) 0) Ax cx bs hs HBY.out hlb).mono ?_
              clear hs
              rintro e W ⟨_, _, _, rfl, _, hs, rfl, A5, c5, ev, rfl, rfl⟩
              obtain ⟨J5, hle5, hs5, hby5⟩ := hs.freezeRow
              replace hs := hs5
              have HBY5 := Lib.hid hby5
              have HLE5 := Lib.hid (HLE.out.trans hle5)
              clear hs5 hby5 hle5
              try clear hHeld
              refine hK.out _ _ (by (try dsimp only); first | exact opKeep hs | exact opKeep (hs.grow _)) (fun hHeld => ?_)
              clear hK K
              try simp only [Act.put, List.getElem_toArray, List.getElem_cons_zero, List.getElem_cons_succ, List.setIfInBounds_toArray, List.set_cons_zero, List.set_cons_succ]
              refine wpAnyH_ready (rs := [8]) (by kernel_rfl) (by simp) ?_
              refine (AllReadyH.cons (o := _) rfl (fun K hK => ?_) AllReadyH.nil)
              go_simp
              refine (pushU J5 _ W p f ⟨marker, 5, seq, time, 9, .slice none 0 0, ev, 3⟩ A5 c5 bs layer now f1 sent ask HPU.out hs HBY5.out hlb hok ⟨os, ot⟩ on).mono ?_
              clear hs
              rintro e W ⟨J8, f2, P2, A8, c8, n8, rfl, hle8, hs, hyes, hno⟩
              have HQ := Lib.hid (And.intro (HLE5.out.trans hle8) (And.intro hyes hno))
              clear hle8 hyes hno
              try clear hHeld
              refine hK.out _ _ (by (try dsimp only); first | exact opKeep hs | exact opKeep (hs.grow _)) (fun hHeld => ?_)
              clear hK K
              try simp only [Act.put, List.getElem_toArray, List.getElem_cons_zero, List.getElem_cons_succ, List.setIfInBounds_toArray, List.set_cons_zero, List.set_cons_succ]
              refine wpAnyH_take (i := 9) (oi := _) (v := ?_) rfl (by kernel_rfl) (by kernel_rfl) (by kernel_rfl) (fun _ _ _ h => h) (Or.inl ⟨by rfl, ?_⟩) (by assumption) ?_
              rotate_left
              · (intro w hSw; (try dsimp only at hSw); go_simp; try with_reducible rfl)
              try simp only [Act.put, List.getElem_toArray, List.getElem_cons_zero, List.getElem_cons_succ, List.setIfInBounds_toArray, List.set_cons_zero, List.set_cons_succ]
              refine wpAnyH_take (i := 10) (oi := _) (v := ?_) rfl (by kernel_rfl) (by kernel_rfl) (by kernel_rfl) (fun _ _ _ h => h) (Or.inl ⟨by rfl, ?_⟩) (by assumption) ?_
              rotate_left
              · (intro w hSw; (try dsimp only at hSw); go_simp; try with_reducible rfl)
              try simp only [Act.put, List.getElem_toArray, List.getElem_cons_zero, List.getElem_cons_succ, List.setIfInBounds_toArray, List.set_cons_zero, List.set_cons_succ]
              refine wpAnyH_take (i := 11) (oi := _) (v := ?_) rfl (by kernel_rfl) (by kernel_rfl) (by kernel_rfl) (fun _ _ _ h => h) (Or.inl ⟨by rfl, ?_⟩) (by assumption) ?_
              rotate_left
              · (intro w hSw; (try dsimp only at hSw); go_simp; try with_reducible rfl)
              try simp only [Act.put, List.getElem_toArray, List.getElem_cons_zero, List.getElem_cons_succ, List.setIfInBounds_toArray, List.set_cons_zero, List.set_cons_succ]
              refine wpAnyH_take (i := 12) (oi := _) (v := ?_) rfl (by kernel_rfl) (by kernel_rfl) (by kernel_rfl) (fun _ _ _ h => h) (Or.inl ⟨by rfl, ?_⟩) (by assumption) ?_
              rotate_left
              · (intro w hSw; (try dsimp only at hSw); go_simp; try with_reducible rfl)
              try simp only [Act.put, List.getElem_toArray, List.getElem_cons_zero, List.getElem_cons_succ, List.setIfInBounds_toArray, List.set_cons_zero, List.set_cons_succ]
              refine wpAnyH_ready (rs := [14]) (by kernel_rfl) (by simp) ?_
              refine (AllReadyH.cons (o := _) rfl (fun K hK => ?_) AllReadyH.nil)
              refine step_store_row (by rfl) 38 _ _ (by rfl) xq (xC P2 (.slice A8 n8 c8)) (by rfl) (by rfl) 38 _ (hs.at 2 rfl) pkI rfl (by simp [Value.oneCell']) ?_
              replace hs := hs.setR2 (xC P2 (.slice A8 n8 c8))
              try clear hHeld
              refine hK.out _ _ (by (try dsimp only); first | exact opKeep hs | exact opKeep (hs.grow _)) (fun hHeld => ?_)
              clear hK K
              try simp only [Act.put, List.getElem_toArray, List.getElem_cons_zero, List.getElem_cons_succ, List.setIfInBounds_toArray, List.set_cons_zero, List.set_cons_succ]
              refine wpAnyH_take (i := 15) (oi := _) (v := ?_) rfl (by kernel_rfl) (by kernel_rfl) (by kernel_rfl) (fun _ _ _ h => h) (Or.inl ⟨by rfl, ?_⟩) (by assumption) ?_
              rotate_left
              · (intro w hSw; (try dsimp only at hSw); go_simp; try with_reducible rfl)
              try simp only [Act.put, List.getElem_toArray, List.getElem_cons_zero, List.getElem_cons_succ, List.setIfInBounds_toArray, List.set_cons_zero, List.set_cons_succ]
              refine wpAnyH_take (i := 16) (oi := _) (v := ?_) rfl (by kernel_rfl) (by kernel_rfl) (by kernel_rfl) (fun _ _ _ h => h) (Or.inl ⟨by rfl, ?_⟩) (by assumption) ?_
              rotate_left
              · (intro w hSw; (try dsimp only at hSw); go_simp; try with_reducible rfl)
              try simp only [Act.put, List.getElem_toArray, List.getElem_cons_zero, List.getElem_cons_succ, List.setIfInBounds_toArray, List.set_cons_zero, List.set_cons_succ]
              refine wpAnyH_done (by kernel_rfl) ?_ _
              go_wp2
              go_meet
              exact ⟨rfl, rfl, xq, rfl, J8, f2, P2, A8, c8, n8, HQ.out.1, hs, HQ.out.2.1, HQ.out.2.2⟩
          · skip
            go_simp
            obtain ⟨xq, hxq⟩ : ∃ n, n = W.heap.size := ⟨_, rfl⟩
            rw [← hxq]
            try clear hHeld
            refine hK.out _ _ (by (try dsimp only); first | exact opKeep hs | exact opKeep (hs.grow _)) (fun hHeld => ?_)
            clear hK K
            try simp only [Act.put, List.getElem_toArray, List.getElem_cons_zero, List.getElem_cons_succ, List.setIfInBounds_toArray, List.set_cons_zero, List.set_cons_succ]
            generalize hw : World.alloc W _ = W at hHeld ⊢
            replace hs := hs.allocTo hw hxq
            clear hw hxq
            refine wpAnyH_ready (rs := [4]) (by kernel_rfl) (by simp) ?_
            refine (AllReadyH.cons (o := _) rfl (fun K hK => ?_) AllReadyH.nil)
            go_simp
            refine (packetC J _ W ⟨false, layer, seq, time, marker, Ax, cx, bs, now⟩ hs).mono ?_
            clear hs
            rintro e W ⟨_, _, _, rfl, _, hs, rfl, rfl, rfl⟩
            try clear hHeld
            refine hK.out _ _ (by (try dsimp only); first | exact opKeep hs | exact opKeep (hs.grow _)) (fun hHeld => ?_)
            clear hK K
            try simp only [Act.put, List.getElem_toArray, List.getElem_cons_zero, List.getElem_cons_succ, List.setIfInBounds_toArray, List.set_cons_zero, List.set_cons_succ]
            refine wpAnyH_ready (rs := [5]) (by kernel_rfl) (by simp) ?_
            refine (AllReadyH.cons (o := _) rfl (fun K hK => ?_) AllReadyH.nil)
            go_simp
            refine (theirsC J _ W (pk5 ⟨false, layer, seq, time, marker, Ax, cx, bs, now⟩ (.slice none 0 0) 0) Ax cx bs hs HBY.out hlb).mono ?_
            clear hs
            rintro e W ⟨_, _, _, rfl, _, hs, rfl, A5, c5, ev, rfl, rfl⟩
            obtain ⟨J5, hle5, hs5, hby5⟩ := hs.freezeRow
            replace hs := hs5
            have HBY5 := Lib.hid hby5
            have HLE5 := Lib.hid (HLE.out.trans hle5)
            clear hs5 hby5 hle5
            try clear hHeld
            refine hK.out _ _ (by (try dsimp only); first | exact opKeep hs | exact opKeep (hs.grow _)) (fun hHeld => ?_)
            clear hK K
            try simp only [Act.put, List.getElem_toArray, List.getElem_cons_zero, List.getElem_cons_succ, List.setIfInBounds_toArray, List.set_cons_zero, List.set_cons_succ]
            refine wpAnyH_ready (rs := [8]) (by kernel_rfl) (by simp) ?_
            refine (AllReadyH.cons (o := _) rfl (fun K hK => ?_) AllReadyH.nil)
            go_simp
            refine (pushU J5 _ W p f ⟨marker, 5, seq, time, 9, .slice none 0 0, ev, 3⟩ A5 c5 bs layer now f1 sent ask HPU.out hs HBY5.out hlb hok ⟨os, ot⟩ on).mono ?_
            clear hs
            rintro e W ⟨J8, f2, P2, A8, c8, n8, rfl, hle8, hs, hyes, hno⟩
            have HQ := Lib.hid (And.intro (HLE5.out.trans hle8) (And.intro hyes hno))
            clear hle8 hyes hno
            try clear hHeld
            refine hK.out _ _ (by (try dsimp only); first | exact opKeep hs | exact opKeep (hs.grow _)) (fun hHeld => ?_)
            clear hK K
            try simp only [Act.put, List.getElem_toArray, List.getElem_cons_zero, List.getElem_cons_succ, List.setIfInBounds_toArray, List.set_cons_zero, List.set_cons_succ]
            refine wpAnyH_take (i := 9) (oi := _) (v := ?_) rfl (by kernel_rfl) (by kernel_rfl) (by kernel_rfl) (fun _ _ _ h => h) (Or.inl ⟨by rfl, ?_⟩) (by assumption) ?_
            rotate_left
            · (intro w hSw; (try dsimp only at hSw); go_simp; try with_reducible rfl)
            try simp only [Act.put, List.getElem_toArray, List.getElem_cons_zero, List.getElem_cons_succ, List.setIfInBounds_toArray, List.set_cons_zero, List.set_cons_succ]
            refine wpAnyH_take (i := 10) (oi := _) (v := ?_) rfl (by kernel_rfl) (by kernel_rfl) (by kernel_rfl) (fun _ _ _ h => h) (Or.inl ⟨by rfl, ?_⟩) (by assumption) ?_
            rotate_left
            · (intro w hSw; (try dsimp only at hSw); go_simp; try with_reducible rfl)
            try simp only [Act.put, List.getElem_toArray, List.getElem_cons_zero, List.getElem_cons_succ, List.setIfInBounds_toArray, List.set_cons_zero, List.set_cons_succ]
            refine wpAnyH_take (i := 11) (oi := _) (v := ?_) rfl (by kernel_rfl) (by kernel_rfl) (by kernel_rfl) (fun _ _ _ h => h) (Or.inl ⟨by rfl, ?_⟩) (by assumption) ?_
            rotate_left
            · (intro w hSw; (try dsimp only at hSw); go_simp; try with_reducible rfl)
            try simp only [Act.put, List.getElem_toArray, List.getElem_cons_zero, List.getElem_cons_succ, List.setIfInBounds_toArray, List.set_cons_zero, List.set_cons_succ]
            refine wpAnyH_take (i := 12) (oi := _) (v := ?_) rfl (by kernel_rfl) (by kernel_rfl) (by kernel_rfl) (fun _ _ _ h => h) (Or.inl ⟨by rfl, ?_⟩) (by assumption) ?_
            rotate_left
            · (intro w hSw; (try dsimp only at hSw); go_simp; try with_reducible rfl)
            try simp only [Act.put, List.getElem_toArray, List.getElem_cons_zero, List.getElem_cons_succ, List.setIfInBounds_toArray, List.set_cons_zero, List.set_cons_succ]
            refine wpAnyH_ready (rs := [14]) (by kernel_rfl) (by simp) ?_
            refine (AllReadyH.cons (o := _) rfl (fun K hK => ?_) AllReadyH.nil)
            refine step_store_row (by rfl) 38 _ _ (by rfl) xq (xC P2 (.slice A8 n8 c8)) (by rfl) (by rfl) 38 _ (hs.at 2 rfl) pkI rfl (by simp [Value.oneCell']) ?_
            replace hs := hs.setR2 (xC P2 (.slice A8 n8 c8))
            try clear hHeld
            refine hK.out _ _ (by (try dsimp only); first | exact opKeep hs | exact opKeep (hs.grow _)) (fun hHeld => ?_)
            clear hK K
            try simp only [Act.put, List.getElem_toArray, List.getElem_cons_zero, List.getElem_cons_succ, List.setIfInBounds_toArray, List.set_cons_zero, List.set_cons_succ]
            refine wpAnyH_take (i := 15) (oi := _) (v := ?_) rfl (by kernel_rfl) (by kernel_rfl) (by kernel_rfl) (fun _ _ _ h => h) (Or.inl ⟨by rfl, ?_⟩) (by assumption) ?_
            rotate_left
            · (intro w hSw; (try dsimp only at hSw); go_simp; try with_reducible rfl)
            try simp only [Act.put, List.getElem_toArray, List.getElem_cons_zero, List.getElem_cons_succ, List.setIfInBounds_toArray, List.set_cons_zero, List.set_cons_succ]
            refine wpAnyH_take (i := 16) (oi := _) (v := ?_) rfl (by kernel_rfl) (by kernel_rfl) (by kernel_rfl) (fun _ _ _ h => h) (Or.inl ⟨by rfl, ?_⟩) (by assumption) ?_
            rotate_left
            · (intro w hSw; (try dsimp only at hSw); go_simp; try with_reducible rfl)
            try simp only [Act.put, List.getElem_toArray, List.getElem_cons_zero, List.getElem_cons_succ, List.setIfInBounds_toArray, List.set_cons_zero, List.set_cons_succ]
            refine wpAnyH_done (by kernel_rfl) ?_ _
            go_wp2
            go_meet
            exact ⟨rfl, rfl, xq, rfl, J8, f2, P2, A8, c8, n8, HQ.out.1, hs, HQ.out.2.1, HQ.out.2.2⟩
        case rest =>
          obtain ⟨rfl, rfl, xq, rfl, J8, f2, P2, A2, c2, n2, hle8, hs, hyes, hno⟩ := hcut
          obtain ⟨hkp, hok1, hask⟩ := pushS_ok HPU.out hok ol
          have HK := Lib.hid hkp
          have HN := Lib.hid (And.intro hyes hno)
          have HA := Lib.hid hask
          rcases hbb : beginsS m.codec bs with ⟨b1, b2⟩
          have HBB := Lib.hid hbb
          obtain ⟨hcO, _, _⟩ := Blk.all (hs.at 1 rfl)
          obtain ⟨hcM, _, _⟩ := Blk.all (hs.at 3 rfl)
          have H8 := Lib.hid (And.intro hle8 hs)
          clear HST z0 z1 z2 z3 z4 z5 z6 hW hkp hle8 hs hyes hno hask hbb
          go_wp2_with fail
          refine (beginsR2 J8 _ _ m.codec Ax cx bs b1 b2 HBB.out H8.out.2 (HBI.out.mono H8.out.1) hlb).mono ?_
          rintro e w9 ⟨rfl, nq, rfl⟩
          have hs9 := H8.out.2.drewN nq
          generalize wc.drewN nq = w9 at hs9 ⊢
          clear hcO hcM
          obtain ⟨hcO, _, _⟩ := Blk.all (hs9.at 1 rfl)
          have H9 := Lib.hid hs9
          clear hs9
          cases sent
          · have hf2 := HN.out.2 rfl
            subst hf2
            have HL := Lib.hid ((pushS_fresh HPU.out).2 rfl)
            go_wp2
            go_roundw
            case rel => exact ⟨k + 1, f2, last, by omega, by go_num, by rw [HL.out], rfl, hok1, HK.out.codec.trans HF.out.1, fun h => HK.out.last.trans (HF.out.2 (by rw [← HL.out]; exact h)), J8, H8.out.1, H9.out.swap2.drop.drop⟩
            case measure => simp [intOf]; omega
          · obtain ⟨rfl, rfl, rfl⟩ := HN.out.1 rfl
            obtain rfl := HA.out rfl
            have HL := Lib.hid ((pushS_fresh HPU.out).1 rfl)
            obtain ⟨d1, hd1⟩ : ∃ d, (layer != f.layer) = d := ⟨_, rfl⟩
            obtain ⟨d2, hd2⟩ : ∃ d, (seq != IntKind.u16.wrap (last + 1)) = d := ⟨_, rfl⟩
            have hno : (d1 || d2) = true → (b1 && b2) = true := by
              intro hd
              apply Classical.byContradiction
              intro hb
              have hfr : frS f bs = false := by rw [frS_codec (b1 := b1) (b2 := b2) (by rw [HF.out.1]; exact HBB.out)]; simpa using hb
              obtain ⟨e1, e2⟩ := HL.out.2.2 hfr
              have e3 := HF.out.2 (by have := HL.out.2.1; omega)
              have g1 : d1 = false := by rw [← hd1, e1]; simp
              have g2 : d2 = false := by rw [← hd2, show seq = (f.last + 1) % 65536 from e2, u16_mod, e3]; simp
              rw [g1, g2] at hd
              cases hd
            have HNO := Lib.hid hno
            clear hno
            cases d1 <;> cases d2 <;> cases b1 <;> cases b2
            all_goals
              first
                | (have hx := HNO.out rfl; cases hx; done)
                | (go_wp2
                   go_quiet (fail)
                   go_wp2
                   go_roundw
                   case rel => exact ⟨k + 1, sendS f1 (pk5 ⟨false, layer, seq, time, marker, Ax, cx, bs, now⟩ (.slice none 0 0) 0) (beginsS f.codec bs).1 now, seq, by omega, by go_num, by (show Value.int _ _ = Value.int _ (picF f1 _).layer); rw [picF_layer, HL.out.1], rfl, sendS_ok hok1 ⟨os, ot⟩ on, by (show (picF f1 _).codec = _); rw [picF_codec]; exact HK.out.codec.trans HF.out.1, fun _ => rfl, J8, H8.out.1, (H9.out.drewN _).swap2.drop.drop⟩
                   case measure => (simp [intOf]; omega))
      · go_wp2_with fail
        refine (chooseC J _ _ p f layer HST.out).mono ?_
        rintro e w4 ⟨_, _, _, rfl, _, hst4, rfl, rfl, rfl⟩
        have H4 := Lib.hid hst4.swap1.drop
        have HO := Lib.hid (chooseF_ok hok ol.2)
        have HC : Hid ((chooseF f layer).layer = f.layer ∧ (chooseF f layer).codec = f.codec ∧ (chooseF f layer).last = f.last) := Lib.hid (by unfold chooseF; split <;> exact ⟨rfl, rfl, rfl⟩)
        clear hst4 z0 z1 z2 z3 z4 z5 z6 HST
        go_wp2
        go_roundw
        case rel => exact ⟨k + 1, chooseF f layer, last, by omega, by go_num, by rw [HC.out.1], rfl, HO.out, by rw [HC.out.2.1]; exact HF.out.1, fun h => by rw [HC.out.2.2]; exact HF.out.2 (by rw [← HC.out.1]; exact h), J, HLE.out, H4.out⟩
        case measure => simp [intOf]; omega
    · have H2 := Lib.hid (And.intro hle hst)
      have hk' : k = xs.length := by omega
      subst hk'
      clear hle hst hlt
      go_wp2
      go_returns
      exact Ret.mk H2.out.1 H2.out.2.drop.drop ⟨rfl, rfl⟩
end Go.Proofs.Ytaemohkmingnpaa
