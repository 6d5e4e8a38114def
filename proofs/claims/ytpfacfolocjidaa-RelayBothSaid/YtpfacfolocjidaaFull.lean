import Derived.Test.YtpfacfolocjidaaAwake
namespace Go.Proofs.Ytpfacfolocjidaa
open Go.RowKit

def lab (k : Nat) : ByteArray := ⟨#[99, UInt8.ofNat (97 + k)]⟩
def strm (f : Int) (k : Nat) : Int := IntKind.u16.wrap (f + k)
def chs (f : Int) (k : Nat) : List Ch := (List.range (min k 8)).map fun j => (strm f j, lab j)
theorem other_word : wordB ⟨#[111, 116, 104, 101, 114]⟩ 1 32 = true := by decide +kernel
theorem lab_word : ∀ k, k < 14 → wordB (lab k) 1 32 = true := by decide +kernel
theorem lab_list (k : Nat) : (lab k).toList = [99, UInt8.ofNat (97 + k)] := by rw [ByteArray.toList_eq]; rfl
theorem lab_inj {j k : Nat} (hj : j < 14) (hk : k < 14) (h : ((lab j).toList == (lab k).toList) = true) : j = k := by
  rw [lab_list, lab_list] at h
  simp only [beq_iff_eq, List.cons.injEq, and_true, true_and] at h
  have := congrArg UInt8.toNat h
  rw [UInt8.toNat_ofNat', UInt8.toNat_ofNat', Nat.mod_eq_of_lt (by simp; omega), Nat.mod_eq_of_lt (by simp; omega)] at this
  omega
theorem lab_other (j : Nat) : ((lab j).toList == (⟨#[111, 116, 104, 101, 114]⟩ : ByteArray).toList) = false := by
  rw [lab_list, ByteArray.toList_eq]; simp
theorem strm_eq (f : Int) (k : Nat) : strm f k = (f + k) % 65536 := by
  unfold strm
  simp only [IntKind.wrap, IntKind.signed, IntKind.bits]
  rfl
theorem strm_inj {f : Int} {j k : Nat} (hj : j < 200) (hk : k < 200) (h : strm f j = strm f k) : j = k := by
  rw [strm_eq, strm_eq] at h; omega
theorem chs_mem {f : Int} {k : Nat} {c : Ch} (h : c ∈ chs f k) : ∃ j, j < k ∧ j < 8 ∧ c = (strm f j, lab j) := by
  unfold chs at h
  obtain ⟨j, hj, rfl⟩ := List.mem_map.1 h
  rw [List.mem_range] at hj
  exact ⟨j, by omega, by omega, rfl⟩
theorem chs_len (f : Int) (k : Nat) : (chs f k).length = min k 8 := by simp [chs]
theorem chs_succ (f : Int) {k : Nat} (h : k < 8) : chs f (k + 1) = chs f k ++ [(strm f k, lab k)] := by
  unfold chs
  rw [show min (k + 1) 8 = k + 1 by omega, show min k 8 = k by omega, List.range_succ, List.map_append]
  rfl
theorem chs_full (f : Int) {k : Nat} (h : 8 ≤ k) : chs f (k + 1) = chs f k := by
  unfold chs
  rw [show min (k + 1) 8 = 8 by omega, show min k 8 = 8 by omega]
theorem fnd_none {x : ByteArray} {cs : List Ch} (h : ∀ c ∈ cs, (c.2.toList == x.toList) = false) : (fnd x cs).isSome = false := by
  simp only [fnd, Option.isSome_map, List.find?_isSome, Bool.eq_false_iff, ne_eq]
  rintro ⟨c, hc, he⟩
  rw [h c hc] at he; cases he
theorem fnd_some {x : ByteArray} {cs : List Ch} {c : Ch} (hc : c ∈ cs) (h : (c.2.toList == x.toList) = true) : (fnd x cs).isSome = true := by
  simp only [fnd, Option.isSome_map, List.find?_isSome]
  exact ⟨c, hc, h⟩
theorem idx_neg {s : Int} {cs : List Ch} (h : ∀ c ∈ cs, c.1 ≠ s) : ¬ 0 ≤ idx s cs := by
  rw [← idx_miss fun m hm => h _ (List.getElem_mem hm)]; omega
theorem idx_pos {s : Int} {cs : List Ch} {c : Ch} (hc : c ∈ cs) (h : c.1 = s) : 0 ≤ idx s cs := by
  unfold idx
  cases he : cs.findIdx? (fun c => c.1 == s) with
  | some i => simp
  | none =>
    rw [List.findIdx?_eq_none_iff] at he
    have := he c hc
    simp [h] at this
theorem E_first {f : Int} {k : Nat} (h : k < 14) : openEE (strm f k) (lab k) (chs f k) = if k < 8 then 0 else 6 := by
  have h1 : (fnd (lab k) (chs f k)).isSome = false := fnd_none fun c hc => by
    obtain ⟨j, hj, hj8, rfl⟩ := chs_mem hc
    cases he : ((lab j).toList == (lab k).toList) with
    | false => rfl
    | true => have := lab_inj (by omega) h he; omega
  have h2 : ¬ 0 ≤ idx (strm f k) (chs f k) := idx_neg fun c hc he => by
    obtain ⟨j, hj, hj8, rfl⟩ := chs_mem hc
    have := strm_inj (by omega) (by omega) he
    omega
  have h3 := chs_len f k
  simp only [openEE, lab_word k h, if_true, openE, h1, h2]
  by_cases hk : k < 8
  · rw [if_neg (by simp), if_neg (by omega), if_pos hk]
  · rw [if_neg (by simp), if_pos (by omega), if_neg hk]
theorem E_second {f : Int} {k : Nat} (h : k < 14) : openEE (strm f k) ⟨#[111, 116, 104, 101, 114]⟩ (chs f (k + 1)) = if k < 8 then 9 else 6 := by
  by_cases hk : k < 8
  · have h2 : 0 ≤ idx (strm f k) (chs f (k + 1)) := idx_pos (c := (strm f k, lab k)) (by rw [chs_succ f hk]; simp) rfl
    simp only [openEE, other_word, if_true, openE, if_pos (Or.inr h2), if_pos hk]
  · have h1 : (fnd ⟨#[111, 116, 104, 101, 114]⟩ (chs f (k + 1))).isSome = false := fnd_none fun c hc => by
      obtain ⟨j, hj, hj8, rfl⟩ := chs_mem hc
      exact lab_other j
    have h2 : ¬ 0 ≤ idx (strm f k) (chs f (k + 1)) := idx_neg fun c hc he => by
      obtain ⟨j, hj, hj8, rfl⟩ := chs_mem hc
      have := strm_inj (by omega) (by omega) he
      omega
    have h3 := chs_len f (k + 1)
    simp only [openEE, other_word, if_true, openE, h1, h2]
    rw [if_neg (by simp), if_pos (by omega), if_neg hk]
theorem E_third {f : Int} {k : Nat} (h : k < 14) : openEE (strm f 100) (lab k) (chs f (k + 1)) = if k < 8 then 9 else 6 := by
  by_cases hk : k < 8
  · have h2 : (fnd (lab k) (chs f (k + 1))).isSome = true := fnd_some (c := (strm f k, lab k)) (by rw [chs_succ f hk]; simp) (by simp)
    simp only [openEE, lab_word k h, if_true, openE, if_pos (Or.inl h2), if_pos hk]
  · have h1 : (fnd (lab k) (chs f (k + 1))).isSome = false := fnd_none fun c hc => by
      obtain ⟨j, hj, hj8, rfl⟩ := chs_mem hc
      cases he : ((lab j).toList == (lab k).toList) with
      | false => rfl
      | true => have := lab_inj (by omega) h he; omega
    have h2 : ¬ 0 ≤ idx (strm f 100) (chs f (k + 1)) := idx_neg fun c hc he => by
      obtain ⟨j, hj, hj8, rfl⟩ := chs_mem hc
      have := strm_inj (by omega) (by omega) he
      omega
    have h3 := chs_len f (k + 1)
    simp only [openEE, lab_word k h, if_true, openE, h1, h2]
    rw [if_neg (by simp), if_pos (by omega), if_neg hk]

/-- what a caller that keeps no more than the book needs of an opening -/
theorem BkOpen.use {T E base b : Nat} {v : Value} {cs : List Ch} {s n : Int} {x : ByteArray} {w wr w' : World} {e : Ending} (hp : BkOpen T E base b v cs s x wr e w') (hn : openEE s x cs = n) (hbk : Bk T E wr base b v cs) (hb : Below base w wr) (h0 : base ≤ wr.heap.size) :
    ∃ v' s' k' A n' c, e = .returned (.tuple #[.agg #[.int .u16 s', .int .u32 k', .slice A n' c], .int .i64 n]) ∧ Bk T E w' base b v' (if n = 0 then cs ++ [(s, x)] else cs) ∧ Below base w w' ∧ base ≤ w'.heap.size := by
  obtain ⟨v', D, h1, h2, _, h4, h5⟩ := hp
  rw [hn] at h1 h4
  obtain ⟨A, c, rfl⟩ := own_form h5
  exact ⟨v', _, _, A, _, c, h4, h1, hb.trans (h2.below hbk.lo (fun k h => (hbk.own.lt k h).1) h0), Nat.le_trans h0 h2.size⟩
theorem conv_lab (W : World) (k : Nat) (hk : k < 14) : (convert 27 9 (.slice (some ⟨W.heap.size, 0, none⟩) 2 2)).run Try.prog (W.alloc (.cells #[.int .u8 99, .int .u8 (97 + k)] 5)) = .ok (.string (lab k)) (W.alloc (.cells #[.int .u8 99, .int .u8 (97 + k)] 5)) := by
  have h := run_convert_bytes_back (P := Try.prog) (W.alloc (.cells #[.int .u8 99, .int .u8 (97 + k)] 5)) 27 9 5 ⟨W.heap.size, 0, none⟩ 2 [99, UInt8.ofNat (97 + k)] Try.underlying27 Try.underlying5 Try.underlying9 (by
    intro j hj
    rw [add0, World.cell?_alloc_new]
    match j, hj with
    | 0, _ => rfl
    | 1, _ =>
      simp only [List.getElem_cons_succ, List.getElem_cons_zero]
      rw [UInt8.toNat_ofNat', Nat.mod_eq_of_lt (by simp; omega)]
      simp)
  simpa [lab] using h

set_option maxHeartbeats 2000000 in
set_option maxRecDepth 100000 in
theorem c3 (count first : Int) (w : World) (h0 : 0 ≤ count) (h1 : count < 256) (_h2 : 0 ≤ first) (_h3 : first < 65536) :
    Calls Try.prog 3 #[.int .u8 count, .int .u16 first] w fun e w' => e = .returned (.bool true) ∧ Below w.heap.size w w' := by
  go_enter Try.func3, Try.ntmps3
  go_wp2_with (first | (go_at_call 8; refine (c8 _).mono ?_; rintro e w1 ⟨rfl, hb1⟩) | (go_at_call 9; refine (c9 _).mono ?_; rintro e w2 ⟨rfl, rfl⟩))
  have hB : Bk 59 74 (w1.alloc (.cells #[.slice none 0 0] 59)) w.heap.size w1.heap.size (.slice none 0 0) (chs first 0) := ⟨heap_alloc_new _ _, hb1.size, World.ownsRow_nil _ _ _ _⟩
  have hbw := hb1.alloc hb1.size (.cells #[.slice none 0 0] 59)
  go_loopw [22] (fun i wr => ∃ k : Nat, (k : Int) ≤ count % 14 ∧ i = .int .i64 k ∧ (∃ v, Bk 59 74 wr w.heap.size w1.heap.size v (chs first k)) ∧ Below w.heap.size w wr ∧ w.heap.size ≤ wr.heap.size) (fun i _ => 13 - (intOf i).toNat)
  case atStart => exact ⟨0, by omega, rfl, ⟨_, hB⟩, hbw, by have := hb1.size; simp; omega⟩
  case round =>
    obtain ⟨k, hk, rfl, ⟨v, hBk⟩, hb, hsz⟩ := hrel
    clear hB hbw hb1
    have hm : ∀ k, (chs first k).length ≤ 8 := fun k => by rw [chs_len]; omega
    by_cases hlt : (k : Int) < count % 14
    · have hk14 : k < 14 := by omega
      have hcv := fun W => conv_lab W k hk14
      have hE1 := Lib.hid (E_first (f := first) hk14)
      have hE2 := Lib.hid (E_second (f := first) hk14)
      have hE3 := Lib.hid (E_third (f := first) hk14)
      have hst : IntKind.u16.wrap (first + k) = strm first k := rfl
      have hst1 : IntKind.u16.wrap (first + 100) = strm first 100 := rfl
      have Hm := Lib.hid hm
      clear hm
      by_cases h8 : k < 8
      · rw [if_pos h8] at hE1 hE2 hE3
        go_wp2_with fail
        refine (c10 (strm first k) (lab k) _ _ _ _ _ (by show 2 ≤ maxLen; decide) (Hm.out k) (hBk.below ((Below.refl _ _).alloc (Nat.le_refl _) _) (Nat.le_refl _))).mono ?_
        intro e w2 hp
        obtain ⟨v2, s2, k2, A2, n2, d2, rfl, hB2, hb2, hs2⟩ := hp.use hE1.out (hBk.below ((Below.refl _ _).alloc (Nat.le_refl _) _) (Nat.le_refl _)) (hb.alloc hsz _) (by simp; omega)
        rw [if_pos rfl, ← chs_succ first h8] at hB2
        have hB2' := hB2.below ((Below.refl _ _).alloc (Nat.le_refl _) (.cells #[.int .u16 s2, .int .u32 k2, .slice A2 n2 d2] 29)) (Nat.le_refl _)
        have hb2' := hb2.alloc hs2 (.cells #[.int .u16 s2, .int .u32 k2, .slice A2 n2 d2] 29)
        clear hp hB2 hb2 hBk hb
        go_wp2_with fail
        refine (c10 (strm first k) ⟨#[111, 116, 104, 101, 114]⟩ _ _ _ _ _ (by show 5 ≤ maxLen; decide) (Hm.out (k + 1)) hB2').mono ?_
        intro e w3 hp
        obtain ⟨v3, s3, k3, A3, n3, d3, rfl, hB3, hb3, hs3⟩ := hp.use hE2.out hB2' hb2' (by simp; omega)
        rw [if_neg (by decide)] at hB3
        have hB3' := hB3.below ((Below.refl _ _).alloc (Nat.le_refl _) (.cells #[.int .u16 s3, .int .u32 k3, .slice A3 n3 d3] 29)) (Nat.le_refl _)
        have hb3' := hb3.alloc hs3 (.cells #[.int .u16 s3, .int .u32 k3, .slice A3 n3 d3] 29)
        have hB3'' := hB3'.below ((Below.refl _ _).alloc (Nat.le_refl _) (.cells #[.int .u8 99, .int .u8 (97 + k)] 5)) (Nat.le_refl _)
        have hb3'' := hb3'.alloc (by simp; omega) (.cells #[.int .u8 99, .int .u8 (97 + k)] 5)
        have hcv3 := conv_lab (w3.alloc (.cells #[.int .u16 s3, .int .u32 k3, .slice A3 n3 d3] 29)) k hk14
        simp only [World.size_alloc] at hcv3
        clear hp hB3 hb3 hB2' hb2' hB3' hb3'
        go_wp2_with fail
        refine (c10 (strm first 100) (lab k) _ _ _ _ _ (by show 2 ≤ maxLen; decide) (Hm.out (k + 1)) hB3'').mono ?_
        intro e w4 hp
        obtain ⟨v4, s4, k4, A4, n4, d4, rfl, hB4, hb4, hs4⟩ := hp.use hE3.out hB3'' hb3'' (by simp; omega)
        rw [if_neg (by decide)] at hB4
        have hB4' := hB4.below ((Below.refl _ _).alloc (Nat.le_refl _) (.cells #[.int .u16 s4, .int .u32 k4, .slice A4 n4 d4] 29)) (Nat.le_refl _)
        have hb4' := hb4.alloc hs4 (.cells #[.int .u16 s4, .int .u32 k4, .slice A4 n4 d4] 29)
        have HB := Lib.hid hB4'
        have Hb := Lib.hid hb4'
        clear hp hB4 hb4 hB3'' hb3'' hB4' hb4' hcv hcv3 hst hst1
        go_wp2
        go_roundw
        case rel => exact ⟨k + 1, by omega, by go_num, ⟨_, HB.out⟩, Hb.out, by simp; omega⟩
        case measure => simp [intOf]; omega
      · rw [if_neg h8] at hE1 hE2 hE3
        go_wp2_with fail
        refine (c10 (strm first k) (lab k) _ _ _ _ _ (by show 2 ≤ maxLen; decide) (Hm.out k) (hBk.below ((Below.refl _ _).alloc (Nat.le_refl _) _) (Nat.le_refl _))).mono ?_
        intro e w2 hp
        obtain ⟨v2, s2, k2, A2, n2, d2, rfl, hB2, hb2, hs2⟩ := hp.use hE1.out (hBk.below ((Below.refl _ _).alloc (Nat.le_refl _) _) (Nat.le_refl _)) (hb.alloc hsz _) (by simp; omega)
        rw [if_neg (by decide), ← chs_full first (by omega : 8 ≤ k)] at hB2
        have hB2' := hB2.below ((Below.refl _ _).alloc (Nat.le_refl _) (.cells #[.int .u16 s2, .int .u32 k2, .slice A2 n2 d2] 29)) (Nat.le_refl _)
        have hb2' := hb2.alloc hs2 (.cells #[.int .u16 s2, .int .u32 k2, .slice A2 n2 d2] 29)
        clear hp hB2 hb2 hBk hb
        go_wp2_with fail
        refine (c10 (strm first k) ⟨#[111, 116, 104, 101, 114]⟩ _ _ _ _ _ (by show 5 ≤ maxLen; decide) (Hm.out (k + 1)) hB2').mono ?_
        intro e w3 hp
        obtain ⟨v3, s3, k3, A3, n3, d3, rfl, hB3, hb3, hs3⟩ := hp.use hE2.out hB2' hb2' (by simp; omega)
        rw [if_neg (by decide)] at hB3
        have hB3' := hB3.below ((Below.refl _ _).alloc (Nat.le_refl _) (.cells #[.int .u16 s3, .int .u32 k3, .slice A3 n3 d3] 29)) (Nat.le_refl _)
        have hb3' := hb3.alloc hs3 (.cells #[.int .u16 s3, .int .u32 k3, .slice A3 n3 d3] 29)
        have hB3'' := hB3'.below ((Below.refl _ _).alloc (Nat.le_refl _) (.cells #[.int .u8 99, .int .u8 (97 + k)] 5)) (Nat.le_refl _)
        have hb3'' := hb3'.alloc (by simp; omega) (.cells #[.int .u8 99, .int .u8 (97 + k)] 5)
        have hcv3 := conv_lab (w3.alloc (.cells #[.int .u16 s3, .int .u32 k3, .slice A3 n3 d3] 29)) k hk14
        simp only [World.size_alloc] at hcv3
        clear hp hB3 hb3 hB2' hb2' hB3' hb3'
        go_wp2_with fail
        refine (c10 (strm first 100) (lab k) _ _ _ _ _ (by show 2 ≤ maxLen; decide) (Hm.out (k + 1)) hB3'').mono ?_
        intro e w4 hp
        obtain ⟨v4, s4, k4, A4, n4, d4, rfl, hB4, hb4, hs4⟩ := hp.use hE3.out hB3'' hb3'' (by simp; omega)
        rw [if_neg (by decide)] at hB4
        have hB4' := hB4.below ((Below.refl _ _).alloc (Nat.le_refl _) (.cells #[.int .u16 s4, .int .u32 k4, .slice A4 n4 d4] 29)) (Nat.le_refl _)
        have hb4' := hb4.alloc hs4 (.cells #[.int .u16 s4, .int .u32 k4, .slice A4 n4 d4] 29)
        have HB := Lib.hid hB4'
        have Hb := Lib.hid hb4'
        clear hp hB4 hb4 hB3'' hb3'' hB4' hb4' hcv hcv3 hst hst1
        go_wp2
        go_roundw
        case rel => exact ⟨k + 1, by omega, by go_num, ⟨_, HB.out⟩, Hb.out, by simp; omega⟩
        case measure => simp [intOf]; omega
    · have hl := chs_len first k
      go_wp2_with (go_at_call 11; refine (c11 _ _ _ _ _ hBk).mono ?_; rintro e w' ⟨rfl, rfl⟩)
      all_goals
        go_ret
        exact ⟨ret_bool (by simp; omega), hb⟩
end Go.Proofs.Ytpfacfolocjidaa
