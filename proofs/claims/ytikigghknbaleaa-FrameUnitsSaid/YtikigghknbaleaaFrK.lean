/- FrameSets. -/
import Derived.Test.YtikigghknbaleaaFrJ
namespace Go.Proofs.Ytikigghknbaleaa
open Go.RowKit
set_option linter.unusedSimpArgs false

theorem lit_src {P : Program} {w : World} {t e : TypeId} (ht : P.underlying t = some (.slice e)) (l : List UInt8) : Src P 1 t (.slice (some ⟨w.heap.size, 0, none⟩) l.length l.length) l.length (bvs l) (w.alloc (.cells (bvs l).toArray e)) := by
  refine Src.ofSlice _ ht _ _ _ _ (by rw [bvs_len, Nat.mul_one]) (fun j u hj => ?_) (bvs_one l)
  rw [add_at, Nat.zero_add, World.cell?_alloc_new]
  simpa using hj
theorem byts_some {J : Img} {A : Option Addr} {bs : List UInt8} (h : Byts J A bs) (h0 : 0 < bs.length) : ∃ g o, A = some ⟨g, o, none⟩ := by
  obtain ⟨g, o, e, _⟩ := h (by rw [bvs_len]; exact h0)
  exact ⟨g, o, e⟩
theorem hz77 {J : Img} {g o : Nat} {b : List UInt8} (h : Byts J (some ⟨g, o, none⟩) (b ++ [77])) :
    ∀ (K : Img) (M : List Res) (w : World), J.le K → St K M w → w.cell? ⟨g, o + b.length, none⟩ = some (.int .u8 77) := by
  intro K M w hl hs
  have := Byts.at' (h.mono hl) hs (k := b.length) (by simp)
  rw [this]
  simp
set_option maxHeartbeats 4000000 in
set_option maxRecDepth 100000 in
theorem law6 (I : Img) (M : List Res) (w : World) (A : Option Addr) (c : Nat) (b : List UInt8) (n : Int) (hst : St I M w) (hb : Byts I A b) (hl : b.length ≤ 140737488351232) (hn0 : 0 ≤ n) (hn1 : n ≤ 65535) :
    Calls Try.prog 6 #[.slice A b.length c, .int .u16 n] w (Yes I M) := by
  obtain ⟨i0, hi, hz0, hz1, hz2⟩ := info_parts infoU8
  have HB := Lib.hid hb
  clear hb
  have HLN := Lib.hid (setS_len b n)
  have HBS := Lib.hid (begins_set b n hn0)
  rcases pic_set b n hn0 with ⟨h1, h2⟩ | ⟨h1, h2, h3, h4, h5⟩ | ⟨h1, h2, h3, h4, h5⟩
  · have H1 := Lib.hid h1
    have H2 := Lib.hid h2
    clear h1 h2
    go_enter Try.func6, Try.ntmps6
    go_wp2_with fail
    refine (awakeC I M _ hst).mono ?_
    clear hst
    rintro e w1 ⟨_, J, M, rfl, hle, hst, rfl, rfl⟩
    have hst1 := (hst.alloc 5 #[]).drop
    have Hs := Lib.hid ((HB.out.mono hle).src hst1 Try.underlying22 c)
    have Ho := Lib.hid (hst.lit0 (e := 5))
    have Hst := Lib.hid hst
    have Hle := Lib.hid hle
    clear hst1 hst hle
    go_wp2_with (at_builtin; refine wpList_append_src _ rfl _ _ 22 22 rfl w1.heap.size 5 i0 (.int .u8 0) 1 1 Try.underlying22 hi hz0 hz1 hz2 rfl _ _ _ rfl Ho.out _ _ _ rfl Hs.out (by unfold maxLen; omega) (by omega) (by simp) ?_)
    intro v3 w3 hown' hgrow _
    have hB := ((Below.refl w1.heap.size w1).alloc (Nat.le_refl _) (.cells #[] 5)).grown hgrow (by simp) (fun k hk => by simp [Value.ownBlock] at hk; omega)
    have hown2 : w3.ownsRow w1.heap.size 5 1 v3 b.length (bvs b) := by simpa using hown'
    have Hst3 := Lib.hid (St.fresh Hst.out (Hst.out.below hB) hown2)
    have Hown := Lib.hid (own_mono (base' := 0) hown2 (Nat.zero_le _))
    clear hown' hown2 hgrow hB Hs Ho
    obtain ⟨A3, c3, rfl⟩ := own_form Hown.out
    have Hl := Lib.hid (lit_src (P := Try.prog) (w := w3) (t := 22) (e := 5) Try.underlying22 [77])
    have Hown4 := Lib.hid (Hown.out.alloc (.cells #[.int .u8 77] 5))
    go_wp2_with (at_builtin; refine wpList_append_src _ rfl _ _ 22 22 rfl 0 5 i0 (.int .u8 0) 1 1 Try.underlying22 hi hz0 hz1 hz2 rfl _ _ _ rfl Hown4.out _ _ _ rfl Hl.out (by unfold maxLen; simp only [List.length_cons, List.length_nil]; omega) (by simp only [List.length_cons, List.length_nil]; omega) (by simp) ?_)
    intro v4 w4 hown' hgrow hat
    have hst4 := St.grown (Hst3.out.grow (.cells #[.int .u8 77] 5)) hgrow hown' (by simpa using hat)
    clear hown' hgrow hat Hst3 Hown Hl Hown4 hi hz0 hz1 hz2
    obtain ⟨A4, c4, rfl⟩ := own_form hst4.head
    have hcap := (own_cap hst4.head).2
    rw [show (bvs b ++ bvs [77]) = bvs (b ++ [77]) from (bvs_append _ _).symm] at hst4
    obtain ⟨J4, hle4, hst, hB4⟩ := hst4.freezeRow
    obtain ⟨g, o, rfl⟩ := byts_some (bs := b ++ [77]) hB4 (by simp)
    have hz := hz77 hB4
    have hBb : Byts J4 (some ⟨g, o, none⟩) b := by
      have := Byts.take (bs := b ++ [77]) hB4 b.length
      rwa [List.take_left] at this
    have hcap' : (b.length : Int) ≤ c4 := by omega
    have hlen0 : (0 : Int) ≤ b.length := by omega
    have HZ := Lib.hid hz
    have HBb := Lib.hid hBb
    have HBI := Lib.hid (HB.out.mono (Hle.out.trans hle4))
    have HL4 := Lib.hid (Hle.out.trans hle4)
    clear hz hBb hB4 hst4 hle4 Hst Hle
    go_wp2_with fail
    refine (setP J4 M _ _ c4 b n hst HBb.out hl (by omega) (by omega)).mono ?_
    clear hst
    rintro e w5 ⟨_, J5, _, rfl, hle5, hst5, A5, c5, rfl, hc5, rfl⟩
    obtain ⟨J6, hle6, hst, hB6⟩ := hst5.freezeRow
    clear hst5
    have HL6 := Lib.hid (hle5.trans hle6)
    have HB6 := Lib.hid (show Byts J6 A5 (setS b n) from hB6)
    clear hB6 hle5 hle6
    go_wp2_with fail
    refine (picP J6 M _ A c b hst (HBI.out.mono HL6.out) hl).mono ?_
    clear hst
    rintro e w6 ⟨_, J7, M, rfl, hle7, hst, rfl, rfl⟩
    have HL7 := Lib.hid hle7
    clear hle7
    unfold three
    skip
    go_wp2_with fail
    refine (picP J7 M _ A5 c5 (setS b n) hst (HB6.out.mono HL7.out) (by rw [HLN.out]; exact hl)).mono ?_
    clear hst
    rintro e w7 ⟨_, J8, M, rfl, hle8, hst, rfl, rfl⟩
    have HL8 := Lib.hid (HL7.out.trans hle8)
    clear hle8 HL7
    unfold three
    rw [show picS (setS b n) = picS b from by rw [H2.out]]
    go_wp2_with fail
    refine (beginsP J8 M _ ⟨#[86, 80, 56]⟩ A c b hst (HBI.out.mono (HL6.out.trans HL8.out)) hl).mono ?_
    clear hst
    rintro e w8 ⟨_, J9, M, rfl, hle9, hst, rfl, rfl⟩
    have HL9 := Lib.hid (HL8.out.trans hle9)
    clear hle9 HL8
    unfold two
    go_wp2_with fail
    refine (beginsP J9 M _ ⟨#[86, 80, 56]⟩ A5 c5 (setS b n) hst (HB6.out.mono HL9.out) (by rw [HLN.out]; exact hl)).mono ?_
    clear hst
    rintro e w9 ⟨_, J10, M, rfl, hle10, hst, rfl, rfl⟩
    have HL10 := Lib.hid (HL9.out.trans hle10)
    clear hle10 HL9
    rw [HBS.out]
    unfold two
    rw [HLN.out]
    have hz := HZ.out _ _ _ (HL6.out.trans HL10.out) hst
    have hc1 := fun k => (HBb.out.mono (HL6.out.trans HL10.out)).conv (hst.drewN k) Try.underlying22 Try.underlying5 Try.underlying9 c4
    have hc2 := fun k => (HBI.out.mono (HL6.out.trans HL10.out)).conv (hst.drewN k) Try.underlying22 Try.underlying5 Try.underlying9 c
    have hc3 := fun k => (HB6.out.mono HL10.out).conv (hst.drewN k) Try.underlying22 Try.underlying5 Try.underlying9 c5
    rw [HLN.out] at hc3
    generalize beginsS ⟨#[86, 80, 56]⟩ b = q at *
    have hpf : (picS b).2.2 = false := H1.out
    have hsame : setS b n = b := H2.out
    rw [hsame] at hc3
    generalize picS b = p at *
    obtain ⟨p1, p2, p3⟩ := p
    obtain rfl : p3 = false := hpf
    have H10 := Lib.hid hst
    clear hst hsame H1
    go_wp2
    go_quiet (fail)
    go_wp2
    go_returns
    exact Ret.mk (HL4.out.trans (HL6.out.trans HL10.out)) (H10.out.drewN _) ⟨rfl, rfl⟩

  · obtain ⟨old, hold⟩ : ∃ old, picS b = (old, 7, true) := ⟨(picS b).1, by rw [← h1]⟩
    rw [hold] at h3 h4 h5
    have HP := Lib.hid hold
    have H2 := Lib.hid h2
    have H3 := Lib.hid h3
    have H4 := Lib.hid (And.intro h4 h5)
    clear h1 h2 h3 h4 h5 hold
    go_enter Try.func6, Try.ntmps6
    go_wp2_with fail
    refine (awakeC I M _ hst).mono ?_
    clear hst
    rintro e w1 ⟨_, J, M, rfl, hle, hst, rfl, rfl⟩
    have hst1 := (hst.alloc 5 #[]).drop
    have Hs := Lib.hid ((HB.out.mono hle).src hst1 Try.underlying22 c)
    have Ho := Lib.hid (hst.lit0 (e := 5))
    have Hst := Lib.hid hst
    have Hle := Lib.hid hle
    clear hst1 hst hle
    go_wp2_with (at_builtin; refine wpList_append_src _ rfl _ _ 22 22 rfl w1.heap.size 5 i0 (.int .u8 0) 1 1 Try.underlying22 hi hz0 hz1 hz2 rfl _ _ _ rfl Ho.out _ _ _ rfl Hs.out (by unfold maxLen; omega) (by omega) (by simp) ?_)
    intro v3 w3 hown' hgrow _
    have hB := ((Below.refl w1.heap.size w1).alloc (Nat.le_refl _) (.cells #[] 5)).grown hgrow (by simp) (fun k hk => by simp [Value.ownBlock] at hk; omega)
    have hown2 : w3.ownsRow w1.heap.size 5 1 v3 b.length (bvs b) := by simpa using hown'
    have Hst3 := Lib.hid (St.fresh Hst.out (Hst.out.below hB) hown2)
    have Hown := Lib.hid (own_mono (base' := 0) hown2 (Nat.zero_le _))
    clear hown' hown2 hgrow hB Hs Ho
    obtain ⟨A3, c3, rfl⟩ := own_form Hown.out
    have Hl := Lib.hid (lit_src (P := Try.prog) (w := w3) (t := 22) (e := 5) Try.underlying22 [77])
    have Hown4 := Lib.hid (Hown.out.alloc (.cells #[.int .u8 77] 5))
    go_wp2_with (at_builtin; refine wpList_append_src _ rfl _ _ 22 22 rfl 0 5 i0 (.int .u8 0) 1 1 Try.underlying22 hi hz0 hz1 hz2 rfl _ _ _ rfl Hown4.out _ _ _ rfl Hl.out (by unfold maxLen; simp only [List.length_cons, List.length_nil]; omega) (by simp only [List.length_cons, List.length_nil]; omega) (by simp) ?_)
    intro v4 w4 hown' hgrow hat
    have hst4 := St.grown (Hst3.out.grow (.cells #[.int .u8 77] 5)) hgrow hown' (by simpa using hat)
    clear hown' hgrow hat Hst3 Hown Hl Hown4 hi hz0 hz1 hz2
    obtain ⟨A4, c4, rfl⟩ := own_form hst4.head
    have hcap := (own_cap hst4.head).2
    rw [show (bvs b ++ bvs [77]) = bvs (b ++ [77]) from (bvs_append _ _).symm] at hst4
    obtain ⟨J4, hle4, hst, hB4⟩ := hst4.freezeRow
    obtain ⟨g, o, rfl⟩ := byts_some (bs := b ++ [77]) hB4 (by simp)
    have hz := hz77 hB4
    have hBb : Byts J4 (some ⟨g, o, none⟩) b := by
      have := Byts.take (bs := b ++ [77]) hB4 b.length
      rwa [List.take_left] at this
    have hcap' : (b.length : Int) ≤ c4 := by omega
    have hlen0 : (0 : Int) ≤ b.length := by omega
    have HZ := Lib.hid hz
    have HBb := Lib.hid hBb
    have HBI := Lib.hid (HB.out.mono (Hle.out.trans hle4))
    have HL4 := Lib.hid (Hle.out.trans hle4)
    clear hz hBb hB4 hst4 hle4 Hst Hle
    go_wp2_with fail
    refine (setP J4 M _ _ c4 b n hst HBb.out hl (by omega) (by omega)).mono ?_
    clear hst
    rintro e w5 ⟨_, J5, _, rfl, hle5, hst5, A5, c5, rfl, hc5, rfl⟩
    obtain ⟨J6, hle6, hst, hB6⟩ := hst5.freezeRow
    clear hst5
    have HL6 := Lib.hid (hle5.trans hle6)
    have HB6 := Lib.hid (show Byts J6 A5 (setS b n) from hB6)
    clear hB6 hle5 hle6
    go_wp2_with fail
    refine (picP J6 M _ A c b hst (HBI.out.mono HL6.out) hl).mono ?_
    clear hst
    rintro e w6 ⟨_, J7, M, rfl, hle7, hst, rfl, rfl⟩
    have HL7 := Lib.hid hle7
    clear hle7
    unfold three
    rw [HP.out]
    go_wp2_with fail
    refine (picP J7 M _ A5 c5 (setS b n) hst (HB6.out.mono HL7.out) (by rw [HLN.out]; exact hl)).mono ?_
    clear hst
    rintro e w7 ⟨_, J8, M, rfl, hle8, hst, rfl, rfl⟩
    have HL8 := Lib.hid (HL7.out.trans hle8)
    clear hle8 HL7
    unfold three
    rw [H2.out]
    go_wp2_with fail
    refine (beginsP J8 M _ ⟨#[86, 80, 56]⟩ A c b hst (HBI.out.mono (HL6.out.trans HL8.out)) hl).mono ?_
    clear hst
    rintro e w8 ⟨_, J9, M, rfl, hle9, hst, rfl, rfl⟩
    have HL9 := Lib.hid (HL8.out.trans hle9)
    clear hle9 HL8
    unfold two
    go_wp2_with fail
    refine (beginsP J9 M _ ⟨#[86, 80, 56]⟩ A5 c5 (setS b n) hst (HB6.out.mono HL9.out) (by rw [HLN.out]; exact hl)).mono ?_
    clear hst
    rintro e w9 ⟨_, J10, M, rfl, hle10, hst, rfl, rfl⟩
    have HL10 := Lib.hid (HL9.out.trans hle10)
    clear hle10 HL9
    rw [HBS.out]
    unfold two
    rw [HLN.out]
    have hz := HZ.out _ _ _ (HL6.out.trans HL10.out) hst
    have hc1 := fun k => (HBb.out.mono (HL6.out.trans HL10.out)).conv (hst.drewN k) Try.underlying22 Try.underlying5 Try.underlying9 c4
    have hc2 := fun k => (HBI.out.mono (HL6.out.trans HL10.out)).conv (hst.drewN k) Try.underlying22 Try.underlying5 Try.underlying9 c
    have hc3 := fun k => (HB6.out.mono HL10.out).conv (hst.drewN k) Try.underlying22 Try.underlying5 Try.underlying9 c5
    rw [HLN.out] at hc3
    generalize beginsS ⟨#[86, 80, 56]⟩ b = q at *
    have hset := fun w' (hs : St J10 M w') => setP J10 M w' A5 c5 (setS b n) old hs (HB6.out.mono HL10.out) (by rw [HLN.out]; exact hl) H4.out.1 (by have := H4.out.2; omega)
    simp only [HLN.out] at hset
    rw [H3.out] at hset
    have hcb := fun (K : Img) (N : List Res) (w' : World) (hl : J10.le K) (hs : St K N w') => (HBI.out.mono ((HL6.out.trans HL10.out).trans hl)).conv hs Try.underlying22 Try.underlying5 Try.underlying9 c
    have hh : ∀ k, St J10 M (w9.drewN k) := fun k => hst.drewN k
    have H10 := Lib.hid (And.intro hset (And.intro hcb hh))
    clear hset hcb hh hst
    go_wp2
    go_quiet (fail)
    go_wp2_with fail
    obtain ⟨hset, hcb, hh⟩ := H10.out
    clear hc1 hc2 hc3 hz H10
    have ep : IntKind.i64.wrap (2 ^ min (IntKind.u64.wrap 7).toNat 64) = 128 := by decide +kernel
    have en : IntKind.i64.wrap n = n := IntWalk.i64_in _ (by omega)
    have et : n.tmod 128 = n % 128 := Int.tmod_eq_emod_of_nonneg hn0
    refine wp_region_held_drew (S := (fun w' => (convert 22 9 (.slice A b.length c)).run Try.prog w' = .ok (.string ⟨b.toArray⟩) w')) (by kernel_rfl) (by (try dsimp only); first | exact hcb _ _ _ (.refl _) (hh _).drew | exact hcb _ _ _ hle11 hst) (fun hHeld => ?_)
    refine wpAnyH_take (i := 0) (oi := _) (v := ?_) rfl (by kernel_rfl) (by kernel_rfl) (by kernel_rfl) (fun _ _ _ h => h) (Or.inl ⟨by rfl, ?_⟩) (by assumption) ?_
    rotate_left
    · (intro w hSw; (try dsimp only at hSw); go_simp; try with_reducible rfl)
    try simp only [Act.put, List.getElem_toArray, List.getElem_cons_zero, List.getElem_cons_succ, List.setIfInBounds_toArray, List.set_cons_zero, List.set_cons_succ]
    refine wpAnyH_take (i := 1) (oi := _) (v := ?_) rfl (by kernel_rfl) (by kernel_rfl) (by kernel_rfl) (fun _ _ _ h => h) (Or.inl ⟨by rfl, ?_⟩) (by assumption) ?_
    rotate_left
    · (intro w hSw; (try dsimp only at hSw); go_simp; try with_reducible rfl)
    try simp only [Act.put, List.getElem_toArray, List.getElem_cons_zero, List.getElem_cons_succ, List.setIfInBounds_toArray, List.set_cons_zero, List.set_cons_succ]
    refine wpAnyH_take (i := 2) (oi := _) (v := ?_) rfl (by kernel_rfl) (by kernel_rfl) (by kernel_rfl) (fun _ _ _ h => h) (Or.inl ⟨by rfl, ?_⟩) (by assumption) ?_
    rotate_left
    · (intro w hSw; (try dsimp only at hSw); go_simp; try with_reducible rfl)
    try simp only [Act.put, List.getElem_toArray, List.getElem_cons_zero, List.getElem_cons_succ, List.setIfInBounds_toArray, List.set_cons_zero, List.set_cons_succ]
    refine wpAnyH_take (i := 3) (oi := _) (v := ?_) rfl (by kernel_rfl) (by kernel_rfl) (by kernel_rfl) (fun _ _ _ h => h) (Or.inl ⟨by rfl, ?_⟩) (by assumption) ?_
    rotate_left
    · (intro w hSw; (try dsimp only at hSw); go_simp; try with_reducible rfl)
    try simp only [Act.put, List.getElem_toArray, List.getElem_cons_zero, List.getElem_cons_succ, List.setIfInBounds_toArray, List.set_cons_zero, List.set_cons_succ]
    refine wpAnyH_take (i := 4) (oi := _) (v := ?_) rfl (by kernel_rfl) (by kernel_rfl) (by kernel_rfl) (fun _ _ _ h => h) (Or.inl ⟨by rfl, ?_⟩) (by assumption) ?_
    rotate_left
    · (intro w hSw; (try dsimp only at hSw); go_simp; try with_reducible rfl)
    try simp only [Act.put, List.getElem_toArray, List.getElem_cons_zero, List.getElem_cons_succ, List.setIfInBounds_toArray, List.set_cons_zero, List.set_cons_succ]
    refine wpAnyH_take (i := 5) (oi := _) (v := ?_) rfl (by kernel_rfl) (by kernel_rfl) (by kernel_rfl) (fun _ _ _ h => h) (Or.inl ⟨by rfl, ?_⟩) (by assumption) ?_
    rotate_left
    · (intro w hSw; (try dsimp only at hSw); go_simp; try with_reducible rfl)
    try simp only [Act.put, List.getElem_toArray, List.getElem_cons_zero, List.getElem_cons_succ, List.setIfInBounds_toArray, List.set_cons_zero, List.set_cons_succ]
    refine wpAnyH_take (i := 6) (oi := _) (v := ?_) rfl (by kernel_rfl) (by kernel_rfl) (by kernel_rfl) (fun _ _ _ h => h) (Or.inl ⟨by rfl, ?_⟩) (by assumption) ?_
    rotate_left
    · (intro w hSw; (try dsimp only at hSw); go_simp; try with_reducible rfl)
    try simp only [Act.put, List.getElem_toArray, List.getElem_cons_zero, List.getElem_cons_succ, List.setIfInBounds_toArray, List.set_cons_zero, List.set_cons_succ]
    refine wpAnyH_take (i := 7) (oi := _) (v := ?_) rfl (by kernel_rfl) (by kernel_rfl) (by kernel_rfl) (fun _ _ _ h => h) (Or.inl ⟨by rfl, ?_⟩) (by assumption) ?_
    rotate_left
    · (intro w hSw; (try dsimp only at hSw); go_simp; try with_reducible rfl)
    try simp only [Act.put, List.getElem_toArray, List.getElem_cons_zero, List.getElem_cons_succ, List.setIfInBounds_toArray, List.set_cons_zero, List.set_cons_succ]
    refine wpAnyH_take (i := 8) (oi := _) (v := ?_) rfl (by kernel_rfl) (by kernel_rfl) (by kernel_rfl) (fun _ _ _ h => h) (Or.inl ⟨by rfl, ?_⟩) (by assumption) ?_
    rotate_left
    · (intro w hSw; (try dsimp only at hSw); go_simp; try with_reducible rfl)
    try simp only [Act.put, List.getElem_toArray, List.getElem_cons_zero, List.getElem_cons_succ, List.setIfInBounds_toArray, List.set_cons_zero, List.set_cons_succ]
    refine wpAnyH_take (i := 9) (oi := _) (v := ?_) rfl (by kernel_rfl) (by kernel_rfl) (by kernel_rfl) (fun _ _ _ h => h) (Or.inl ⟨by rfl, ?_⟩) (by assumption) ?_
    rotate_left
    · (intro w hSw; (try dsimp only at hSw); go_simp; try with_reducible rfl)
    try simp only [Act.put, List.getElem_toArray, List.getElem_cons_zero, List.getElem_cons_succ, List.setIfInBounds_toArray, List.set_cons_zero, List.set_cons_succ]
    refine wpAnyH_take (i := 10) (oi := _) (v := ?_) rfl (by kernel_rfl) (by kernel_rfl) (by kernel_rfl) (fun _ _ _ h => h) (Or.inl ⟨by rfl, ?_⟩) (by assumption) ?_
    rotate_left
    · (intro w hSw; (try dsimp only at hSw); go_simp; try with_reducible rfl)
    try simp only [Act.put, List.getElem_toArray, List.getElem_cons_zero, List.getElem_cons_succ, List.setIfInBounds_toArray, List.set_cons_zero, List.set_cons_succ]
    refine wpAnyH_take (i := 13) (oi := _) (v := ?_) rfl (by kernel_rfl) (by kernel_rfl) (by kernel_rfl) (fun _ _ _ h => h) (Or.inl ⟨by rfl, ?_⟩) (by assumption) ?_
    rotate_left
    · (intro w hSw; (try dsimp only at hSw); go_simp; try with_reducible rfl)
    try simp only [Act.put, List.getElem_toArray, List.getElem_cons_zero, List.getElem_cons_succ, List.setIfInBounds_toArray, List.set_cons_zero, List.set_cons_succ]
    refine wpAnyH_take (i := 14) (oi := _) (v := ?_) rfl (by kernel_rfl) (by kernel_rfl) (by kernel_rfl) (fun _ _ _ h => h) (Or.inl ⟨by rfl, ?_⟩) (by assumption) ?_
    rotate_left
    · (intro w hSw; (try dsimp only at hSw); go_simp; try with_reducible rfl)
    try simp only [Act.put, List.getElem_toArray, List.getElem_cons_zero, List.getElem_cons_succ, List.setIfInBounds_toArray, List.set_cons_zero, List.set_cons_succ]
    refine wpAnyH_ready (rs := [11]) (by kernel_rfl) (by simp) ?_
    refine AllReadyH.cons (o := _) rfl (fun K hK => ?_) AllReadyH.nil
    go_simp
    refine (hset _ (hh _).drew).mono ?_; rintro e w11 ⟨_, J11, _, rfl, hle11a, hst11, A11, c11, rfl, hc11, rfl⟩; obtain ⟨J12, hle12, hst, hB12⟩ := hst11.freezeRow; clear hst11; have hle11 := hle11a.trans hle12; have hcv := Byts.conv (bs := b) hB12 hst Try.underlying22 Try.underlying5 Try.underlying9 c11
    refine hK.out _ _ (by (try dsimp only); first | exact hcb _ _ _ (.refl _) (hh _).drew | exact hcb _ _ _ hle11 hst) (fun hHeld => ?_)
    clear hK K
    try simp only [Act.put, List.getElem_toArray, List.getElem_cons_zero, List.getElem_cons_succ, List.setIfInBounds_toArray, List.set_cons_zero, List.set_cons_succ]
    refine wpAnyH_ready (rs := [12]) (by kernel_rfl) (by simp) ?_
    refine AllReadyH.cons (o := _) rfl (fun K hK => ?_) AllReadyH.nil
    go_simp
    refine hK.out _ _ (by (try dsimp only); first | exact hcb _ _ _ (.refl _) (hh _).drew | exact hcb _ _ _ hle11 hst) (fun hHeld => ?_)
    clear hK K
    try simp only [Act.put, List.getElem_toArray, List.getElem_cons_zero, List.getElem_cons_succ, List.setIfInBounds_toArray, List.set_cons_zero, List.set_cons_succ]
    refine wpAnyH_take (i := 15) (oi := _) (v := ?_) rfl (by kernel_rfl) (by kernel_rfl) (by kernel_rfl) (fun _ _ _ h => h) (Or.inl ⟨by rfl, ?_⟩) (by assumption) ?_
    rotate_left
    · (intro w hSw; (try dsimp only at hSw); go_simp; try with_reducible rfl)
    try simp only [Act.put, List.getElem_toArray, List.getElem_cons_zero, List.getElem_cons_succ, List.setIfInBounds_toArray, List.set_cons_zero, List.set_cons_succ]
    refine wpAnyH_take (i := 16) (oi := _) (v := ?_) rfl (by kernel_rfl) (by kernel_rfl) (by kernel_rfl) (fun _ _ _ h => h) (Or.inl ⟨by rfl, ?_⟩) (by assumption) ?_
    rotate_left
    · (intro w hSw; (try dsimp only at hSw); go_simp; try with_reducible rfl)
    try simp only [Act.put, List.getElem_toArray, List.getElem_cons_zero, List.getElem_cons_succ, List.setIfInBounds_toArray, List.set_cons_zero, List.set_cons_succ]
    refine wpAnyH_take (i := 17) (oi := _) (v := ?_) rfl (by kernel_rfl) (by kernel_rfl) (by kernel_rfl) (fun _ _ _ h => h) (Or.inl ⟨by rfl, ?_⟩) (by assumption) ?_
    rotate_left
    · (intro w hSw; (try dsimp only at hSw); go_simp; try with_reducible rfl)
    try simp only [Act.put, List.getElem_toArray, List.getElem_cons_zero, List.getElem_cons_succ, List.setIfInBounds_toArray, List.set_cons_zero, List.set_cons_succ]
    refine wpAnyH_done (by kernel_rfl) ?_ _
    go_wp2
    go_returns
    exact Ret.mk (HL4.out.trans ((HL6.out.trans HL10.out).trans hle11)) hst ⟨rfl, rfl⟩

  · obtain ⟨old, hold⟩ : ∃ old, picS b = (old, 15, true) := ⟨(picS b).1, by rw [← h1]⟩
    rw [hold] at h3 h4 h5
    have HP := Lib.hid hold
    have H2 := Lib.hid h2
    have H3 := Lib.hid h3
    have H4 := Lib.hid (And.intro h4 h5)
    clear h1 h2 h3 h4 h5 hold
    go_enter Try.func6, Try.ntmps6
    go_wp2_with fail
    refine (awakeC I M _ hst).mono ?_
    clear hst
    rintro e w1 ⟨_, J, M, rfl, hle, hst, rfl, rfl⟩
    have hst1 := (hst.alloc 5 #[]).drop
    have Hs := Lib.hid ((HB.out.mono hle).src hst1 Try.underlying22 c)
    have Ho := Lib.hid (hst.lit0 (e := 5))
    have Hst := Lib.hid hst
    have Hle := Lib.hid hle
    clear hst1 hst hle
    go_wp2_with (at_builtin; refine wpList_append_src _ rfl _ _ 22 22 rfl w1.heap.size 5 i0 (.int .u8 0) 1 1 Try.underlying22 hi hz0 hz1 hz2 rfl _ _ _ rfl Ho.out _ _ _ rfl Hs.out (by unfold maxLen; omega) (by omega) (by simp) ?_)
    intro v3 w3 hown' hgrow _
    have hB := ((Below.refl w1.heap.size w1).alloc (Nat.le_refl _) (.cells #[] 5)).grown hgrow (by simp) (fun k hk => by simp [Value.ownBlock] at hk; omega)
    have hown2 : w3.ownsRow w1.heap.size 5 1 v3 b.length (bvs b) := by simpa using hown'
    have Hst3 := Lib.hid (St.fresh Hst.out (Hst.out.below hB) hown2)
    have Hown := Lib.hid (own_mono (base' := 0) hown2 (Nat.zero_le _))
    clear hown' hown2 hgrow hB Hs Ho
    obtain ⟨A3, c3, rfl⟩ := own_form Hown.out
    have Hl := Lib.hid (lit_src (P := Try.prog) (w := w3) (t := 22) (e := 5) Try.underlying22 [77])
    have Hown4 := Lib.hid (Hown.out.alloc (.cells #[.int .u8 77] 5))
    go_wp2_with (at_builtin; refine wpList_append_src _ rfl _ _ 22 22 rfl 0 5 i0 (.int .u8 0) 1 1 Try.underlying22 hi hz0 hz1 hz2 rfl _ _ _ rfl Hown4.out _ _ _ rfl Hl.out (by unfold maxLen; simp only [List.length_cons, List.length_nil]; omega) (by simp only [List.length_cons, List.length_nil]; omega) (by simp) ?_)
    intro v4 w4 hown' hgrow hat
    have hst4 := St.grown (Hst3.out.grow (.cells #[.int .u8 77] 5)) hgrow hown' (by simpa using hat)
    clear hown' hgrow hat Hst3 Hown Hl Hown4 hi hz0 hz1 hz2
    obtain ⟨A4, c4, rfl⟩ := own_form hst4.head
    have hcap := (own_cap hst4.head).2
    rw [show (bvs b ++ bvs [77]) = bvs (b ++ [77]) from (bvs_append _ _).symm] at hst4
    obtain ⟨J4, hle4, hst, hB4⟩ := hst4.freezeRow
    obtain ⟨g, o, rfl⟩ := byts_some (bs := b ++ [77]) hB4 (by simp)
    have hz := hz77 hB4
    have hBb : Byts J4 (some ⟨g, o, none⟩) b := by
      have := Byts.take (bs := b ++ [77]) hB4 b.length
      rwa [List.take_left] at this
    have hcap' : (b.length : Int) ≤ c4 := by omega
    have hlen0 : (0 : Int) ≤ b.length := by omega
    have HZ := Lib.hid hz
    have HBb := Lib.hid hBb
    have HBI := Lib.hid (HB.out.mono (Hle.out.trans hle4))
    have HL4 := Lib.hid (Hle.out.trans hle4)
    clear hz hBb hB4 hst4 hle4 Hst Hle
    go_wp2_with fail
    refine (setP J4 M _ _ c4 b n hst HBb.out hl (by omega) (by omega)).mono ?_
    clear hst
    rintro e w5 ⟨_, J5, _, rfl, hle5, hst5, A5, c5, rfl, hc5, rfl⟩
    obtain ⟨J6, hle6, hst, hB6⟩ := hst5.freezeRow
    clear hst5
    have HL6 := Lib.hid (hle5.trans hle6)
    have HB6 := Lib.hid (show Byts J6 A5 (setS b n) from hB6)
    clear hB6 hle5 hle6
    go_wp2_with fail
    refine (picP J6 M _ A c b hst (HBI.out.mono HL6.out) hl).mono ?_
    clear hst
    rintro e w6 ⟨_, J7, M, rfl, hle7, hst, rfl, rfl⟩
    have HL7 := Lib.hid hle7
    clear hle7
    unfold three
    rw [HP.out]
    go_wp2_with fail
    refine (picP J7 M _ A5 c5 (setS b n) hst (HB6.out.mono HL7.out) (by rw [HLN.out]; exact hl)).mono ?_
    clear hst
    rintro e w7 ⟨_, J8, M, rfl, hle8, hst, rfl, rfl⟩
    have HL8 := Lib.hid (HL7.out.trans hle8)
    clear hle8 HL7
    unfold three
    rw [H2.out]
    go_wp2_with fail
    refine (beginsP J8 M _ ⟨#[86, 80, 56]⟩ A c b hst (HBI.out.mono (HL6.out.trans HL8.out)) hl).mono ?_
    clear hst
    rintro e w8 ⟨_, J9, M, rfl, hle9, hst, rfl, rfl⟩
    have HL9 := Lib.hid (HL8.out.trans hle9)
    clear hle9 HL8
    unfold two
    go_wp2_with fail
    refine (beginsP J9 M _ ⟨#[86, 80, 56]⟩ A5 c5 (setS b n) hst (HB6.out.mono HL9.out) (by rw [HLN.out]; exact hl)).mono ?_
    clear hst
    rintro e w9 ⟨_, J10, M, rfl, hle10, hst, rfl, rfl⟩
    have HL10 := Lib.hid (HL9.out.trans hle10)
    clear hle10 HL9
    rw [HBS.out]
    unfold two
    rw [HLN.out]
    have hz := HZ.out _ _ _ (HL6.out.trans HL10.out) hst
    have hc1 := fun k => (HBb.out.mono (HL6.out.trans HL10.out)).conv (hst.drewN k) Try.underlying22 Try.underlying5 Try.underlying9 c4
    have hc2 := fun k => (HBI.out.mono (HL6.out.trans HL10.out)).conv (hst.drewN k) Try.underlying22 Try.underlying5 Try.underlying9 c
    have hc3 := fun k => (HB6.out.mono HL10.out).conv (hst.drewN k) Try.underlying22 Try.underlying5 Try.underlying9 c5
    rw [HLN.out] at hc3
    generalize beginsS ⟨#[86, 80, 56]⟩ b = q at *
    have hset := fun w' (hs : St J10 M w') => setP J10 M w' A5 c5 (setS b n) old hs (HB6.out.mono HL10.out) (by rw [HLN.out]; exact hl) H4.out.1 (by have := H4.out.2; omega)
    simp only [HLN.out] at hset
    rw [H3.out] at hset
    have hcb := fun (K : Img) (N : List Res) (w' : World) (hl : J10.le K) (hs : St K N w') => (HBI.out.mono ((HL6.out.trans HL10.out).trans hl)).conv hs Try.underlying22 Try.underlying5 Try.underlying9 c
    have hh : ∀ k, St J10 M (w9.drewN k) := fun k => hst.drewN k
    have H10 := Lib.hid (And.intro hset (And.intro hcb hh))
    clear hset hcb hh hst
    go_wp2
    go_quiet (fail)
    go_wp2_with fail
    obtain ⟨hset, hcb, hh⟩ := H10.out
    clear hc1 hc2 hc3 hz H10
    have ep : IntKind.i64.wrap (2 ^ min (IntKind.u64.wrap 15).toNat 64) = 32768 := by decide +kernel
    have en : IntKind.i64.wrap n = n := IntWalk.i64_in _ (by omega)
    have et : n.tmod 32768 = n % 32768 := Int.tmod_eq_emod_of_nonneg hn0
    refine wp_region_held_drew (S := (fun w' => (convert 22 9 (.slice A b.length c)).run Try.prog w' = .ok (.string ⟨b.toArray⟩) w')) (by kernel_rfl) (by (try dsimp only); first | exact hcb _ _ _ (.refl _) (hh _).drew | exact hcb _ _ _ hle11 hst) (fun hHeld => ?_)
    refine wpAnyH_take (i := 0) (oi := _) (v := ?_) rfl (by kernel_rfl) (by kernel_rfl) (by kernel_rfl) (fun _ _ _ h => h) (Or.inl ⟨by rfl, ?_⟩) (by assumption) ?_
    rotate_left
    · (intro w hSw; (try dsimp only at hSw); go_simp; try with_reducible rfl)
    try simp only [Act.put, List.getElem_toArray, List.getElem_cons_zero, List.getElem_cons_succ, List.setIfInBounds_toArray, List.set_cons_zero, List.set_cons_succ]
    refine wpAnyH_take (i := 1) (oi := _) (v := ?_) rfl (by kernel_rfl) (by kernel_rfl) (by kernel_rfl) (fun _ _ _ h => h) (Or.inl ⟨by rfl, ?_⟩) (by assumption) ?_
    rotate_left
    · (intro w hSw; (try dsimp only at hSw); go_simp; try with_reducible rfl)
    try simp only [Act.put, List.getElem_toArray, List.getElem_cons_zero, List.getElem_cons_succ, List.setIfInBounds_toArray, List.set_cons_zero, List.set_cons_succ]
    refine wpAnyH_take (i := 2) (oi := _) (v := ?_) rfl (by kernel_rfl) (by kernel_rfl) (by kernel_rfl) (fun _ _ _ h => h) (Or.inl ⟨by rfl, ?_⟩) (by assumption) ?_
    rotate_left
    · (intro w hSw; (try dsimp only at hSw); go_simp; try with_reducible rfl)
    try simp only [Act.put, List.getElem_toArray, List.getElem_cons_zero, List.getElem_cons_succ, List.setIfInBounds_toArray, List.set_cons_zero, List.set_cons_succ]
    refine wpAnyH_take (i := 3) (oi := _) (v := ?_) rfl (by kernel_rfl) (by kernel_rfl) (by kernel_rfl) (fun _ _ _ h => h) (Or.inl ⟨by rfl, ?_⟩) (by assumption) ?_
    rotate_left
    · (intro w hSw; (try dsimp only at hSw); go_simp; try with_reducible rfl)
    try simp only [Act.put, List.getElem_toArray, List.getElem_cons_zero, List.getElem_cons_succ, List.setIfInBounds_toArray, List.set_cons_zero, List.set_cons_succ]
    refine wpAnyH_take (i := 4) (oi := _) (v := ?_) rfl (by kernel_rfl) (by kernel_rfl) (by kernel_rfl) (fun _ _ _ h => h) (Or.inl ⟨by rfl, ?_⟩) (by assumption) ?_
    rotate_left
    · (intro w hSw; (try dsimp only at hSw); go_simp; try with_reducible rfl)
    try simp only [Act.put, List.getElem_toArray, List.getElem_cons_zero, List.getElem_cons_succ, List.setIfInBounds_toArray, List.set_cons_zero, List.set_cons_succ]
    refine wpAnyH_take (i := 5) (oi := _) (v := ?_) rfl (by kernel_rfl) (by kernel_rfl) (by kernel_rfl) (fun _ _ _ h => h) (Or.inl ⟨by rfl, ?_⟩) (by assumption) ?_
    rotate_left
    · (intro w hSw; (try dsimp only at hSw); go_simp; try with_reducible rfl)
    try simp only [Act.put, List.getElem_toArray, List.getElem_cons_zero, List.getElem_cons_succ, List.setIfInBounds_toArray, List.set_cons_zero, List.set_cons_succ]
    refine wpAnyH_take (i := 6) (oi := _) (v := ?_) rfl (by kernel_rfl) (by kernel_rfl) (by kernel_rfl) (fun _ _ _ h => h) (Or.inl ⟨by rfl, ?_⟩) (by assumption) ?_
    rotate_left
    · (intro w hSw; (try dsimp only at hSw); go_simp; try with_reducible rfl)
    try simp only [Act.put, List.getElem_toArray, List.getElem_cons_zero, List.getElem_cons_succ, List.setIfInBounds_toArray, List.set_cons_zero, List.set_cons_succ]
    refine wpAnyH_take (i := 7) (oi := _) (v := ?_) rfl (by kernel_rfl) (by kernel_rfl) (by kernel_rfl) (fun _ _ _ h => h) (Or.inl ⟨by rfl, ?_⟩) (by assumption) ?_
    rotate_left
    · (intro w hSw; (try dsimp only at hSw); go_simp; try with_reducible rfl)
    try simp only [Act.put, List.getElem_toArray, List.getElem_cons_zero, List.getElem_cons_succ, List.setIfInBounds_toArray, List.set_cons_zero, List.set_cons_succ]
    refine wpAnyH_take (i := 8) (oi := _) (v := ?_) rfl (by kernel_rfl) (by kernel_rfl) (by kernel_rfl) (fun _ _ _ h => h) (Or.inl ⟨by rfl, ?_⟩) (by assumption) ?_
    rotate_left
    · (intro w hSw; (try dsimp only at hSw); go_simp; try with_reducible rfl)
    try simp only [Act.put, List.getElem_toArray, List.getElem_cons_zero, List.getElem_cons_succ, List.setIfInBounds_toArray, List.set_cons_zero, List.set_cons_succ]
    refine wpAnyH_take (i := 9) (oi := _) (v := ?_) rfl (by kernel_rfl) (by kernel_rfl) (by kernel_rfl) (fun _ _ _ h => h) (Or.inl ⟨by rfl, ?_⟩) (by assumption) ?_
    rotate_left
    · (intro w hSw; (try dsimp only at hSw); go_simp; try with_reducible rfl)
    try simp only [Act.put, List.getElem_toArray, List.getElem_cons_zero, List.getElem_cons_succ, List.setIfInBounds_toArray, List.set_cons_zero, List.set_cons_succ]
    refine wpAnyH_take (i := 10) (oi := _) (v := ?_) rfl (by kernel_rfl) (by kernel_rfl) (by kernel_rfl) (fun _ _ _ h => h) (Or.inl ⟨by rfl, ?_⟩) (by assumption) ?_
    rotate_left
    · (intro w hSw; (try dsimp only at hSw); go_simp; try with_reducible rfl)
    try simp only [Act.put, List.getElem_toArray, List.getElem_cons_zero, List.getElem_cons_succ, List.setIfInBounds_toArray, List.set_cons_zero, List.set_cons_succ]
    refine wpAnyH_take (i := 13) (oi := _) (v := ?_) rfl (by kernel_rfl) (by kernel_rfl) (by kernel_rfl) (fun _ _ _ h => h) (Or.inl ⟨by rfl, ?_⟩) (by assumption) ?_
    rotate_left
    · (intro w hSw; (try dsimp only at hSw); go_simp; try with_reducible rfl)
    try simp only [Act.put, List.getElem_toArray, List.getElem_cons_zero, List.getElem_cons_succ, List.setIfInBounds_toArray, List.set_cons_zero, List.set_cons_succ]
    refine wpAnyH_take (i := 14) (oi := _) (v := ?_) rfl (by kernel_rfl) (by kernel_rfl) (by kernel_rfl) (fun _ _ _ h => h) (Or.inl ⟨by rfl, ?_⟩) (by assumption) ?_
    rotate_left
    · (intro w hSw; (try dsimp only at hSw); go_simp; try with_reducible rfl)
    try simp only [Act.put, List.getElem_toArray, List.getElem_cons_zero, List.getElem_cons_succ, List.setIfInBounds_toArray, List.set_cons_zero, List.set_cons_succ]
    refine wpAnyH_ready (rs := [11]) (by kernel_rfl) (by simp) ?_
    refine AllReadyH.cons (o := _) rfl (fun K hK => ?_) AllReadyH.nil
    go_simp
    refine (hset _ (hh _).drew).mono ?_; rintro e w11 ⟨_, J11, _, rfl, hle11a, hst11, A11, c11, rfl, hc11, rfl⟩; obtain ⟨J12, hle12, hst, hB12⟩ := hst11.freezeRow; clear hst11; have hle11 := hle11a.trans hle12; have hcv := Byts.conv (bs := b) hB12 hst Try.underlying22 Try.underlying5 Try.underlying9 c11
    refine hK.out _ _ (by (try dsimp only); first | exact hcb _ _ _ (.refl _) (hh _).drew | exact hcb _ _ _ hle11 hst) (fun hHeld => ?_)
    clear hK K
    try simp only [Act.put, List.getElem_toArray, List.getElem_cons_zero, List.getElem_cons_succ, List.setIfInBounds_toArray, List.set_cons_zero, List.set_cons_succ]
    refine wpAnyH_ready (rs := [12]) (by kernel_rfl) (by simp) ?_
    refine AllReadyH.cons (o := _) rfl (fun K hK => ?_) AllReadyH.nil
    go_simp
    refine hK.out _ _ (by (try dsimp only); first | exact hcb _ _ _ (.refl _) (hh _).drew | exact hcb _ _ _ hle11 hst) (fun hHeld => ?_)
    clear hK K
    try simp only [Act.put, List.getElem_toArray, List.getElem_cons_zero, List.getElem_cons_succ, List.setIfInBounds_toArray, List.set_cons_zero, List.set_cons_succ]
    refine wpAnyH_take (i := 15) (oi := _) (v := ?_) rfl (by kernel_rfl) (by kernel_rfl) (by kernel_rfl) (fun _ _ _ h => h) (Or.inl ⟨by rfl, ?_⟩) (by assumption) ?_
    rotate_left
    · (intro w hSw; (try dsimp only at hSw); go_simp; try with_reducible rfl)
    try simp only [Act.put, List.getElem_toArray, List.getElem_cons_zero, List.getElem_cons_succ, List.setIfInBounds_toArray, List.set_cons_zero, List.set_cons_succ]
    refine wpAnyH_take (i := 16) (oi := _) (v := ?_) rfl (by kernel_rfl) (by kernel_rfl) (by kernel_rfl) (fun _ _ _ h => h) (Or.inl ⟨by rfl, ?_⟩) (by assumption) ?_
    rotate_left
    · (intro w hSw; (try dsimp only at hSw); go_simp; try with_reducible rfl)
    try simp only [Act.put, List.getElem_toArray, List.getElem_cons_zero, List.getElem_cons_succ, List.setIfInBounds_toArray, List.set_cons_zero, List.set_cons_succ]
    refine wpAnyH_take (i := 17) (oi := _) (v := ?_) rfl (by kernel_rfl) (by kernel_rfl) (by kernel_rfl) (fun _ _ _ h => h) (Or.inl ⟨by rfl, ?_⟩) (by assumption) ?_
    rotate_left
    · (intro w hSw; (try dsimp only at hSw); go_simp; try with_reducible rfl)
    try simp only [Act.put, List.getElem_toArray, List.getElem_cons_zero, List.getElem_cons_succ, List.setIfInBounds_toArray, List.set_cons_zero, List.set_cons_succ]
    refine wpAnyH_done (by kernel_rfl) ?_ _
    go_wp2
    go_returns
    exact Ret.mk (HL4.out.trans ((HL6.out.trans HL10.out).trans hle11)) hst ⟨rfl, rfl⟩

end Go.Proofs.Ytikigghknbaleaa
