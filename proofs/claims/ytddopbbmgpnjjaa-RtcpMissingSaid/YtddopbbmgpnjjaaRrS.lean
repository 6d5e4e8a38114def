/- RtcpMissing: missing packets' numbers come back. -/
import Derived.Test.YtddopbbmgpnjjaaRrQ
namespace Go.Proofs.Ytddopbbmgpnjjaa
open Go.RowKit
set_option linter.unusedSimpArgs false

section
variable {P : Program} {ops : Array Oper} {Q : Exit → Act → World → Prop} {md : Region.Mode} {S : World → Prop}
theorem wpAnyL_two {i j : Nat} {oi oj : Oper} {fuel : Nat} {listed : Array Bool} {a : Act} {w : World} (hr : Region.ready md ops listed = [i, j]) (ho : ops[i]? = some oi) (hp : ops[j]? = some oj)
    (h : ∀ K : Act → World → Prop, Hid (∀ a w, S w → (S w → wpAnyL P md ops Q S fuel (listed.setIfInBounds i true) a w) → K a w) → if Region.wanted oi (yielded ops a.tmps) = true then Oper.wp P oi a w K Q else K (a.put oi.dst undef) w)
    (h' : ∀ K : Act → World → Prop, Hid (∀ a w, S w → (S w → wpAnyL P md ops Q S fuel (listed.setIfInBounds j true) a w) → K a w) → if Region.wanted oj (yielded ops a.tmps) = true then Oper.wp P oj a w K Q else K (a.put oj.dst undef) w) :
    wpAnyL P md ops Q S (fuel + 1) listed a w := by
  refine ⟨fun h0 => (by rw [h0] at hr; cases hr), fun k hk => ?_⟩
  rw [hr] at hk
  rcases List.mem_cons.1 hk with rfl | hk
  · have h1 := h (fun a' w' => (allIn (listed.setIfInBounds k true) = true ∨ S w') ∧ wpAnyL P md ops Q S fuel (listed.setIfInBounds k true) a' w') (Lib.hid (fun a' w' h1 h2 => ⟨.inr h1, h2 h1⟩))
    unfold wpOp
    simp only [ho]
    split
    · rename_i hw
      rw [if_pos hw] at h1
      exact .inl h1
    · rename_i hw
      rw [if_neg hw] at h1
      exact h1
  · obtain rfl := List.mem_singleton.1 hk
    have h1 := h' (fun a' w' => (allIn (listed.setIfInBounds k true) = true ∨ S w') ∧ wpAnyL P md ops Q S fuel (listed.setIfInBounds k true) a' w') (Lib.hid (fun a' w' h1 h2 => ⟨.inr h1, h2 h1⟩))
    unfold wpOp
    simp only [hp]
    split
    · rename_i hw
      rw [if_pos hw] at h1
      exact .inl h1
    · rename_i hw
      rw [if_neg hw] at h1
      exact h1
end
abbrev atL (base : Int) (os : List Int) : List Int := os.map (fun a => (base + a) % 65536)
abbrev misP (base : Int) (os : List Int) : Pk := ⟨5, 1, 2, 0, 0, 0, 0, [], ⟨#[]⟩, [], atL base os, 0, 0, 0, [], []⟩
abbrev P2 : Pk := ⟨2, 0, 0, 0, 0, 0, 0, [], ⟨#[]⟩, [], [], 0, 0, 0, [], []⟩
structure OffOk (os : List Int) (t : Int) : Prop where
  pos : 0 < os.length
  inc : ∀ i j (h : j < os.length) (h' : i < os.length), i < j → os[i] < os[j]
  rng : ∀ x ∈ os, 0 ≤ x ∧ x ≤ t
  top : 0 ≤ t ∧ t < 32768
theorem OffOk.one : OffOk [0] 0 := ⟨by simp, fun i j h _ hij => by simp at h; omega, by simp, by omega, by omega⟩
theorem OffOk.snoc {os : List Int} {t t' : Int} (h : OffOk os t) (h1 : t < t') (h2 : t' < 32768) : OffOk (os ++ [t']) t' := by
  refine ⟨by simp, fun i j hj hi hij => ?_, fun x hx => ?_, by have := h.top; omega, h2⟩
  · rw [List.length_append, List.length_singleton] at hj hi
    rcases Nat.lt_or_ge j os.length with hj2 | hj2
    · rw [List.getElem_append_left (by omega), List.getElem_append_left hj2]
      exact h.inc i j hj2 (by omega) hij
    · rw [List.getElem_append_left (by omega : i < os.length), List.getElem_append_right hj2, List.getElem_singleton]
      have := (h.rng _ (List.getElem_mem (show i < os.length by omega))).2
      omega
  · have := h.top
    rcases List.mem_append.1 hx with hx | hx
    · have := h.rng x hx
      omega
    · rw [List.mem_singleton.1 hx]
      omega
theorem mis_good {base t : Int} {os : List Int} (h : OffOk os t) (hl : os.length ≤ 32) : Good (misP base os) := by
  refine ⟨.inr (.inr (.inr (.inl ⟨rfl, fun i hi h0 => ?_, by have := h.pos; simp; omega, by simpa using hl⟩))), by simp [onlyP]⟩
  simp only [List.length_map] at hi
  have a1 := h.inc (i - 1) i hi (by omega) (by omega)
  have a2 := h.inc 0 i hi (by omega) h0
  have b1 := h.rng _ (List.getElem_mem hi)
  have b2 := h.rng _ (List.getElem_mem (show i - 1 < os.length by omega))
  have b3 := h.rng _ (List.getElem_mem (show 0 < os.length by omega))
  have ht := h.top
  simp only [List.getElem_map]
  generalize os[i] = x at *
  generalize os[i - 1] = y at *
  generalize os[0] = z at *
  unfold beforeB
  simp only [Bool.and_eq_true, decide_eq_true_eq]
  omega
theorem p2_good : Good P2 := ⟨.inl ⟨.inr rfl, rfl, by simp⟩, rfl⟩
theorem p2_len : (packB P2).length = 8 := by decide +kernel
theorem mis_len {base t : Int} {os : List Int} (h : OffOk os t) (hl : os.length ≤ 32) : ([P2, misP base os].flatMap packB).length ≤ 20 + 4 * os.length := by
  have hs := (shape5 (mis_good (base := base) h hl) rfl).2
  have hp := piecesB_le _ (atL base os) (Nat.le_refl _)
  have hp2 : ((piecesP (atL base os)).flatMap pieceB).length ≤ 4 * os.length := by rw [List.length_map] at hp; exact hp
  rw [List.flatMap_cons, List.flatMap_cons, List.flatMap_nil, List.append_nil, List.length_append, p2_len]
  unfold packB
  simp only [List.length_append, List.length_cons, List.length_nil, u16B_len]
  rw [hs]
  simp only [List.length_append, u32B_len]
  omega
theorem mis_built {base t : Int} {os : List Int} (h : OffOk os t) (hl : os.length ≤ 32) : Built [P2, misP base os] := by
  refine ⟨⟨by simp, by simp⟩, ⟨P2, _, rfl, .inr rfl⟩, fun p hp => ?_, ?_⟩
  · rcases List.mem_cons.1 hp with rfl | hp
    · exact p2_good
    · rw [List.mem_singleton.1 hp]
      exact mis_good h hl
  · have := mis_len (base := base) h hl
    omega
theorem mis_raw {base : Int} {os : List Int} (hl : os.length ≤ 32) : PkRaw (misP base os) := by
  refine raw_mk (by simp) (by simp) (by simp) (by simp) (by simp) (by simp) (by simp) (by simp) (fun x hx => ?_) (by simp) (by simp) (by simp) (by simp) (Nat.zero_le _) (Nat.zero_le _) (by simp; omega) (Nat.zero_le _) (Nat.zero_le _) (Nat.zero_le _)
  obtain ⟨a, _, rfl⟩ := List.mem_map.1 hx
  omega
theorem two_of {α : Type} {l : List α} (h : l.length = 2) : ∃ a b, l = [a, b] := by
  match l, h with
  | [a, b], _ => exact ⟨a, b, rfl⟩
theorem one_of {α : Type} {l : List α} (h : l.length = 1) : ∃ a, l = [a] := by
  match l, h with
  | [a], _ => exact ⟨a, rfl⟩
theorem Pks.tail {I : Img} {g o : Nat} {x : Pk × Vs} {r : List (Pk × Vs)} (h : Pks I (some ⟨g, o, none⟩) (x :: r)) : Pks I (some ⟨g, o + 16, none⟩) r := by
  refine ⟨fun _ => ?_, fun y hy => h.each y (List.mem_cons_of_mem _ hy), by have := h.most; rw [List.length_cons] at this; omega⟩
  obtain ⟨g', o', e, hc⟩ := h.cells (by simp [flat]; omega)
  injection e with e
  injection e with e1 e2
  subst e1 e2
  refine ⟨g, o + 16, rfl, fun j hj => ?_⟩
  have h1 := hc (16 + j) (by simp [flat]; omega)
  rw [show o + 16 + j = o + (16 + j) by omega, h1]
  have e3 : flat pvC (x :: r) = pvC x ++ flat pvC r := rfl
  simp only [e3]
  rw [List.getElem_append_right (by simp)]
  simp
set_option maxRecDepth 100000 in
set_option maxHeartbeats 40000000 in
theorem law7 (I : Img) (M : List Res) (w : World) (base : Int) (hb : 0 ≤ base ∧ base ≤ 65535) (A : Option Addr) (c : Nat) (st : List UInt8) (hbs : Byts I A st) (hbl : st.length ≤ 140737488351232) (hst : St I M w) :
    Calls Try.prog 7 #[.int .u16 base, .slice A st.length c] w (Yes I M) := by
  have HB := Lib.hid (And.intro hbs hbl)
  have HA := Lib.hid (awakeC I M w hst)
  obtain ⟨hb0, hb1⟩ := hb
  clear hbs hbl hst
  go_enter Try.func7, Try.ntmps7
  go_wp2_with fail
  go_at_call 9
  refine HA.out.mono ?_
  clear HA
  rintro e w1 ⟨J, rfl, hle1, hs1⟩
  obtain ⟨q0, hq0⟩ : ∃ q, q = w1.heap.size := ⟨_, rfl⟩
  have hs2 := hs1.alloc 42 #[.int .u16 base]
  rw [← hq0] at hs2
  have hs3 := hs2.alloc 51 #[.int .i64 5, .int .u32 1, .int .u32 2, .int .u64 0, .int .u32 0, .int .u32 0, .int .u32 0, .slice none 0 0, .string ⟨#[]⟩, .slice none 0 0, .slice (some ⟨q0, 0, none⟩) 1 1, .int .u16 0, .int .u32 0, .int .u8 0, .slice none 0 0, .slice none 0 0]
  simp only [World.size_alloc] at hs3
  rw [← hq0] at hs3
  have hs4 : St J (bk (q0 + 1) 51 #[.int .i64 5, .int .u32 1, .int .u32 2, .int .u64 0, .int .u32 0, .int .u32 0, .int .u32 0, .slice none 0 0, .string ⟨#[]⟩, .slice none 0 0, .slice (some ⟨q0, 0, none⟩) 1 1, .int .u16 0, .int .u32 0, .int .u8 0, .slice none 0 0, .slice none 0 0] :: row 42 1 (.slice (some ⟨q0, 0, none⟩) 1 1) 1 [.int .u16 base] :: M) _ := (hs3.swap1.bkRow (n := 1) (c := 1) (s := 1) (xs := [.int .u16 base]) (by decide) (by decide) rfl rfl).swap1
  have HS := Lib.hid hs4.swap1
  have HLE := Lib.hid hle1
  clear hs1 hs2 hs3 hs4 hle1
  go_upto_region 6 with fail
  rw [← hq0]
  clear hq0
  obtain ⟨q, hq⟩ : ∃ q, q = q0 + 1 := ⟨_, rfl⟩
  rw [← hq] at HS ⊢
  clear hq
  generalize World.alloc (World.alloc w1 _) _ = W2 at HS ⊢
  go_loopw [6, 19] (fun tv iv wr => ∃ (i : Nat) (t : Int) (os : List Int) (n : Nat) (A2 : Option Addr) (c2 : Nat), tv = .int .i64 t ∧ iv = .int .i64 i ∧ i ≤ st.length ∧ n = i + 1 ∧ n ≤ 32 ∧ Hid (OffOk os t ∧ n = os.length ∧ St J (row 42 1 (.slice A2 n c2) n (flat u16C (atL base os)) :: bk q 51 #[.int .i64 5, .int .u32 1, .int .u32 2, .int .u64 0, .int .u32 0, .int .u32 0, .int .u32 0, .slice none 0 0, .string ⟨#[]⟩, .slice none 0 0, .slice A2 n c2, .int .u16 0, .int .u32 0, .int .u8 0, .slice none 0 0, .slice none 0 0] :: M) wr)) (fun _ iv _ => st.length - (intOf iv).toNat)
  case atStart =>
    refine ⟨0, 0, [0], 1, some ⟨q0, 0, none⟩, 1, rfl, rfl, by omega, rfl, by omega, Lib.hid ⟨.one, rfl, ?_⟩⟩
    have h1 : atL base [0] = [base] := by simp [atL]; omega
    rw [h1]
    exact HS.out
  case round =>
    rename_i K9 hK9
    have HT := Lib.hid (show ∀ (z6 z7 z19 z20 z21 z22 z23 z24 z25 z26 z27 z28 z29 z30 z31 z32 z33 z34 z35 z36 z37 z38 z39 z40 z41 z42 z43 z44 z45 : Value) (wr : World) (t : Int) (os : List Int) (n : Nat) (A2 : Option Addr) (c2 : Nat), Hid (OffOk os t ∧ os.length ≤ 32) → Hid (n = os.length) → Hid (St J (row 42 1 (.slice A2 n c2) n (flat u16C (atL base os)) :: bk q 51 #[.int .i64 5, .int .u32 1, .int .u32 2, .int .u64 0, .int .u32 0, .int .u32 0, .int .u32 0, .slice none 0 0, .string ⟨#[]⟩, .slice none 0 0, .slice A2 n c2, .int .u16 0, .int .u32 0, .int .u8 0, .slice none 0 0, .slice none 0 0] :: M) wr) → K9 { tmps := #[.int .u16 base, .slice A st.length c, undef, undef, .bool false, .pointer (some ⟨q, 0, none⟩), z6, z7, undef, undef, undef, undef, .bool true, .bool false, .int .u16 base, .slice (some ⟨q0, 0, none⟩) 1 1, .agg #[.int .i64 5, .int .u32 1, .int .u32 2, .int .u64 0, .int .u32 0, .int .u32 0, .int .u32 0, .slice none 0 0, .string ⟨#[]⟩, .slice none 0 0, .slice (some ⟨q0, 0, none⟩) 1 1, .int .u16 0, .int .u32 0, .int .u8 0, .slice none 0 0, .slice none 0 0], .slice A st.length c, .int .i64 st.length, z19, z20, z21, z22, z23, z24, z25, z26, z27, z28, z29, z30, z31, z32, z33, z34, z35, z36, z37, z38, z39, z40, z41, z42, z43, z44, z45, undef, undef, undef, undef, undef, undef, undef, undef, undef, undef, undef, undef, undef, undef, undef, undef, undef, undef, undef, undef, undef, undef, undef, undef, undef, undef, undef, undef, undef, undef, undef, undef, undef, undef, undef, undef, undef, undef, undef, undef, undef, undef], defers := [] } wr from by
      clear hrel
      intro z6 z7 z19 z20 z21 z22 z23 z24 z25 z26 z27 z28 z29 z30 z31 z32 z33 z34 z35 z36 z37 z38 z39 z40 z41 z42 z43 z44 z45 wr t os n A2 c2 HOF HN HS
      refine hK9 _ _ ?_
      obtain ⟨J2, hle2, hs2, hcl⟩ := HS.out.freezeRow
      have hcap := (own_cap (show World.ownsRow _ 0 42 1 (.slice A2 n c2) n _ from HS.out.at 0 rfl)).2
      have hsl : SlC J2 u16C (.slice A2 n c2) (atL base os) := ⟨A2, c2, by rw [HN.out, List.length_map], hcl, by rw [List.length_map, ← HN.out]; exact hcap⟩
      have HIN := Lib.hid (show PkIn J2 (misP base os) (⟨nilV, nilV, .slice A2 n c2, nilV, nilV⟩ : Vs) from ⟨SlC.nil J2 _, SlC.nil J2 _, hsl, SlC.nil J2 _, SlC.nil J2 _⟩)
      have HLE := Lib.hid (HLE.out.trans hle2)
      obtain ⟨hcq, hfq, hlq⟩ := Blk.all (hs2.at 0 rfl)
      obtain ⟨J3, hle3, hs3, hobj⟩ := (hs2.alloc 51 #[.int .i64 2, .int .u32 0, .int .u32 0, .int .u64 0, .int .u32 0, .int .u32 0, .int .u32 0, .slice none 0 0, .string ⟨#[]⟩, .slice none 0 0, .slice none 0 0, .int .u16 0, .int .u32 0, .int .u8 0, .slice none 0 0, .slice none 0 0, .int .i64 5, .int .u32 1, .int .u32 2, .int .u64 0, .int .u32 0, .int .u32 0, .int .u32 0, .slice none 0 0, .string ⟨#[]⟩, .slice none 0 0, .slice A2 n c2, .int .u16 0, .int .u32 0, .int .u8 0, .slice none 0 0, .slice none 0 0]).freezeBlk
      have hpk : Pks J3 (some ⟨wr.heap.size, 0, none⟩) [(P2, aVs0), (misP base os, (⟨nilV, nilV, .slice A2 n c2, nilV, nilV⟩ : Vs))] := ⟨Cells.ofBlk hobj, fun x hx => by
        rcases List.mem_cons.1 hx with rfl | hx
        · exact ⟨in_zero J3 2 0 0, raw_zero 2 0 0 (by decide) (by decide)⟩
        · rw [List.mem_singleton.1 hx]
          exact ⟨HIN.out.mono hle3, mis_raw HOF.out.2⟩, by simp⟩
      have HC := Lib.hid (buildC J3 _ _ _ 2 _ hpk hs3)
      have HLE := Lib.hid (HLE.out.trans hle3)
      have HIN := Lib.hid (HIN.out.mono hle3)
      have HTL := Lib.hid (tl_of hpk (mis_built HOF.out.1 HOF.out.2))
      clear HS hs2 hs3 hcl hsl hobj hpk hle2 hle3 hcap
      go_wp2_with fail
      go_at_call 11
      refine HC.out.mono ?_
      clear HC hcq hfq hlq
      rintro e w4 ⟨_, J4, _, rfl, hle4, hs4, hbt⟩
      rcases hbt with ⟨_, u, rfl, rfl⟩ | ⟨hn, _⟩
      case inr => exact absurd HTL.out.1 hn
      obtain ⟨U, uc, rfl⟩ := own_form (show World.ownsRow _ 0 5 1 u _ _ from hs4.at 0 rfl)
      obtain ⟨J5, hle5, hs5, hby⟩ := hs4.freezeRow
      have hob : ((pks [(P2, aVs0), (misP base os, (⟨nilV, nilV, .slice A2 n c2, nilV, nilV⟩ : Vs))]).flatMap packB).length ≤ 20 + 4 * n := by rw [HN.out]; exact mis_len HOF.out.1 HOF.out.2
      have hby : Byts J5 U ((pks [(P2, aVs0), (misP base os, (⟨nilV, nilV, .slice A2 n c2, nilV, nilV⟩ : Vs))]).flatMap packB) := hby
      have HLE := Lib.hid ((HLE.out.trans hle4).trans hle5)
      have HIN := Lib.hid ((HIN.out.mono hle4).mono hle5)
      obtain ⟨ob, hobe⟩ : ∃ z, z = (pks [(P2, aVs0), (misP base os, (⟨nilV, nilV, .slice A2 n c2, nilV, nilV⟩ : Vs))]).flatMap packB := ⟨_, rfl⟩
      rw [← hobe] at hby hob HTL ⊢
      have hn32 : n ≤ 32 := by rw [HN.out]; exact HOF.out.2
      have HC := Lib.hid (parseC J5 _ w4 U uc ob hby (by omega) hs5)
      obtain ⟨N5, hN5⟩ : ∃ z, z = ob.length := ⟨_, rfl⟩
      rw [← hN5] at HC hob ⊢
      clear hs4 hle4 hle5 hs5 hby hobe hN5
      go_wp2_with fail
      go_at_call 14
      refine HC.out.mono ?_
      clear HC
      rintro e w5 ⟨J6, hle6, hs6, h6⟩
      rcases h6 with ⟨_, hn⟩ | ⟨D, dc, gs, rfl, hgs, hdc, hbt6, hby6, _, _, huni⟩
      case inl => exact absurd HTL.out (hn _)
      have hge := huni _ HTL.out
      obtain ⟨x1, x2, rfl⟩ := two_of (by have := congrArg List.length hge; simpa [pks] using this.symm)
      have hx2 : misP base os = x2.1 := by
        have h1 := congrArg (fun l => l[1]?) hge
        simpa [pks] using h1
      obtain ⟨g, og, rfl, _⟩ := flat_get (s := 16) (fun _ => rfl) hgs.cells (by simp) (by decide)
      have hdc2 : 2 ≤ dc := hdc
      have hdcn : ¬ dc = 1 := by omega
      have HLE := Lib.hid (HLE.out.trans hle6)
      have HIN := Lib.hid (HIN.out.mono hle6)
      have HX := Lib.hid (And.intro hgs.tail hx2)
      have HS := Lib.hid hs6
      clear hs6 hle6 hgs hdc hbt6 hby6 huni hge hx2
      have hobw : (N5 : Int) ≤ IntKind.i64.wrap (20 + IntKind.i64.wrap (4 * (n : Int))) := by
        have h1 : IntKind.i64.wrap (4 * (n : Int)) = 4 * (n : Int) := wrap_i64 (by omega) (by omega)
        have h2 : IntKind.i64.wrap (20 + 4 * (n : Int)) = 20 + 4 * (n : Int) := wrap_i64 (by omega) (by omega)
        rw [h1, h2]
        omega
      go_upto_region 14 with fail
      have HSS := Lib.hid (fun (J' : Img) (M' : List Res) (w' : World) (hm : bk q 51 #[.int .i64 5, .int .u32 1, .int .u32 2, .int .u64 0, .int .u32 0, .int .u32 0, .int .u32 0, .slice none 0 0, .string ⟨#[]⟩, .slice none 0 0, .slice A2 n c2, .int .u16 0, .int .u32 0, .int .u8 0, .slice none 0 0, .slice none 0 0] ∈ M') (hs : St J' M' w') => (show ∀ i, w'.cell? ⟨q, i, none⟩ = (#[.int .i64 5, .int .u32 1, .int .u32 2, .int .u64 0, .int .u32 0, .int .u32 0, .int .u32 0, .slice none 0 0, .string ⟨#[]⟩, .slice none 0 0, .slice A2 n c2, .int .u16 0, .int .u32 0, .int .u8 0, .slice none 0 0, .slice none 0 0] : Array Value)[i]? from (Blk.all (hs.res _ hm)).1))
      refine wp_region_last (S := fun w' => ∀ i, w'.cell? ⟨q, i, none⟩ = (#[.int .i64 5, .int .u32 1, .int .u32 2, .int .u64 0, .int .u32 0, .int .u32 0, .int .u32 0, .slice none 0 0, .string ⟨#[]⟩, .slice none 0 0, .slice A2 n c2, .int .u16 0, .int .u32 0, .int .u8 0, .slice none 0 0, .slice none 0 0] : Array Value)[i]?) (by kernel_rfl) (HSS.out _ _ _ (by simp) HS.out.drew) (fun hHeld => ?_)
      have hsd := HS.out.drew
      clear HS
      generalize World.drew _ = W3 at hsd hHeld ⊢
      refine wpAnyL_take (i := 0) 1 (oi := _) (v := ?_) rfl (by kernel_rfl) (by kernel_rfl) (by kernel_rfl) (by kernel_rfl) (fun _ _ _ h => h) (Or.inl ⟨by rfl, ?_⟩) (by assumption) ?_
      rotate_left
      · (intro w hSw; (try dsimp only at hSw); go_simp; try with_reducible rfl)
      try simp only [Act.put, List.getElem_toArray, List.getElem_cons_zero, List.getElem_cons_succ, List.setIfInBounds_toArray, List.set_cons_zero, List.set_cons_succ]
      refine wpAnyL_take (i := 1) 2 (oi := _) (v := ?_) rfl (by kernel_rfl) (by kernel_rfl) (by kernel_rfl) (by kernel_rfl) (fun _ _ _ h => h) (Or.inl ⟨by rfl, ?_⟩) (by assumption) ?_
      rotate_left
      · (intro w hSw; (try dsimp only at hSw); go_simp; try with_reducible rfl)
      try simp only [Act.put, List.getElem_toArray, List.getElem_cons_zero, List.getElem_cons_succ, List.setIfInBounds_toArray, List.set_cons_zero, List.set_cons_succ]
      refine wpAnyL_take (i := 2) 3 (oi := _) (v := ?_) rfl (by kernel_rfl) (by kernel_rfl) (by kernel_rfl) (by kernel_rfl) (fun _ _ _ h => h) (Or.inl ⟨by rfl, ?_⟩) (by assumption) ?_
      rotate_left
      · (intro w hSw; (try dsimp only at hSw); go_simp; try with_reducible rfl)
      try simp only [Act.put, List.getElem_toArray, List.getElem_cons_zero, List.getElem_cons_succ, List.setIfInBounds_toArray, List.set_cons_zero, List.set_cons_succ]
      refine wpAnyL_take (i := 3) 4 (oi := _) (v := ?_) rfl (by kernel_rfl) (by kernel_rfl) (by kernel_rfl) (by kernel_rfl) (fun _ _ _ h => h) (Or.inl ⟨by rfl, ?_⟩) (by assumption) ?_
      rotate_left
      · (intro w hSw; (try dsimp only at hSw); go_simp; try with_reducible rfl)
      try simp only [Act.put, List.getElem_toArray, List.getElem_cons_zero, List.getElem_cons_succ, List.setIfInBounds_toArray, List.set_cons_zero, List.set_cons_succ]
      refine wpAnyL_take (i := 4) 5 (oi := _) (v := ?_) rfl (by kernel_rfl) (by kernel_rfl) (by kernel_rfl) (by kernel_rfl) (fun _ _ _ h => h) (Or.inl ⟨by rfl, ?_⟩) (by assumption) ?_
      rotate_left
      · (intro w hSw; (try dsimp only at hSw); go_simp; try with_reducible rfl)
      try simp only [Act.put, List.getElem_toArray, List.getElem_cons_zero, List.getElem_cons_succ, List.setIfInBounds_toArray, List.set_cons_zero, List.set_cons_succ]
      refine wpAnyL_take (i := 5) 6 (oi := _) (v := ?_) rfl (by kernel_rfl) (by kernel_rfl) (by kernel_rfl) (by kernel_rfl) (fun _ _ _ h => h) (Or.inl ⟨by rfl, ?_⟩) (by assumption) ?_
      rotate_left
      · (intro w hSw; (try dsimp only at hSw); go_simp; try with_reducible rfl)
      try simp only [Act.put, List.getElem_toArray, List.getElem_cons_zero, List.getElem_cons_succ, List.setIfInBounds_toArray, List.set_cons_zero, List.set_cons_succ]
      refine wpAnyL_take (i := 6) 7 (oi := _) (v := ?_) rfl (by kernel_rfl) (by kernel_rfl) (by kernel_rfl) (by kernel_rfl) (fun _ _ _ h => h) (Or.inl ⟨by rfl, ?_⟩) (by assumption) ?_
      rotate_left
      · (intro w hSw; (try dsimp only at hSw); go_simp; try with_reducible rfl)
      try simp only [Act.put, List.getElem_toArray, List.getElem_cons_zero, List.getElem_cons_succ, List.setIfInBounds_toArray, List.set_cons_zero, List.set_cons_succ]
      refine wpAnyL_take (i := 7) 8 (oi := _) (v := ?_) rfl (by kernel_rfl) (by kernel_rfl) (by kernel_rfl) (by kernel_rfl) (fun _ _ _ h => h) (Or.inl ⟨by rfl, ?_⟩) (by assumption) ?_
      rotate_left
      · (intro w hSw; (try dsimp only at hSw); go_simp; try with_reducible rfl)
      try simp only [Act.put, List.getElem_toArray, List.getElem_cons_zero, List.getElem_cons_succ, List.setIfInBounds_toArray, List.set_cons_zero, List.set_cons_succ]
      refine wpAnyL_take (i := 8) 9 (oi := _) (v := ?_) rfl (by kernel_rfl) (by kernel_rfl) (by kernel_rfl) (by kernel_rfl) (fun _ _ _ h => h) (Or.inl ⟨by rfl, ?_⟩) (by assumption) ?_
      rotate_left
      · (intro w hSw; (try dsimp only at hSw); go_simp; try with_reducible rfl)
      try simp only [Act.put, List.getElem_toArray, List.getElem_cons_zero, List.getElem_cons_succ, List.setIfInBounds_toArray, List.set_cons_zero, List.set_cons_succ]
      refine wpAnyL_take (i := 9) 10 (oi := _) (v := ?_) rfl (by kernel_rfl) (by kernel_rfl) (by kernel_rfl) (by kernel_rfl) (fun _ _ _ h => h) (Or.inl ⟨by rfl, ?_⟩) (by assumption) ?_
      rotate_left
      · (intro w hSw; (try dsimp only at hSw); go_simp; try with_reducible rfl)
      try simp only [Act.put, List.getElem_toArray, List.getElem_cons_zero, List.getElem_cons_succ, List.setIfInBounds_toArray, List.set_cons_zero, List.set_cons_succ]
      refine wpAnyL_take (i := 10) 11 (oi := _) (v := ?_) rfl (by kernel_rfl) (by kernel_rfl) (by kernel_rfl) (by kernel_rfl) (fun _ _ _ h => h) (Or.inl ⟨by rfl, ?_⟩) (by assumption) ?_
      rotate_left
      · (intro w hSw; (try dsimp only at hSw); go_simp; try with_reducible rfl)
      try simp only [Act.put, List.getElem_toArray, List.getElem_cons_zero, List.getElem_cons_succ, List.setIfInBounds_toArray, List.set_cons_zero, List.set_cons_succ]
      refine wpAnyL_take (i := 11) 12 (oi := _) (v := ?_) rfl (by kernel_rfl) (by kernel_rfl) (by kernel_rfl) (by kernel_rfl) (fun _ _ _ h => h) (Or.inl ⟨by rfl, ?_⟩) (by assumption) ?_
      rotate_left
      · (intro w hSw; (try dsimp only at hSw); go_simp; try with_reducible rfl)
      try simp only [Act.put, List.getElem_toArray, List.getElem_cons_zero, List.getElem_cons_succ, List.setIfInBounds_toArray, List.set_cons_zero, List.set_cons_succ]
      refine wpAnyL_take (i := 12) 13 (oi := _) (v := ?_) rfl (by kernel_rfl) (by kernel_rfl) (by kernel_rfl) (by kernel_rfl) (fun _ _ _ h => h) (Or.inl ⟨by rfl, ?_⟩) (by assumption) ?_
      rotate_left
      · (intro w hSw; (try dsimp only at hSw); go_simp; try with_reducible rfl)
      try simp only [Act.put, List.getElem_toArray, List.getElem_cons_zero, List.getElem_cons_succ, List.setIfInBounds_toArray, List.set_cons_zero, List.set_cons_succ]
      refine wpAnyL_take (i := 13) 19 (oi := _) (v := ?_) rfl (by kernel_rfl) (by kernel_rfl) (by kernel_rfl) (by kernel_rfl) (fun _ _ _ h => h) (Or.inl ⟨by rfl, ?_⟩) (by assumption) ?_
      rotate_left
      · (intro w hSw; (try dsimp only at hSw); go_simp; try with_reducible rfl)
      try simp only [Act.put, List.getElem_toArray, List.getElem_cons_zero, List.getElem_cons_succ, List.setIfInBounds_toArray, List.set_cons_zero, List.set_cons_succ]
      refine wpAnyL_take (i := 14) 15 (oi := _) (v := ?_) rfl (by kernel_rfl) (by kernel_rfl) (by kernel_rfl) (by kernel_rfl) (fun _ _ _ h => h) (Or.inl ⟨by rfl, ?_⟩) (by assumption) ?_
      rotate_left
      · (intro w hSw; (try dsimp only at hSw); go_simp; try with_reducible rfl)
      try simp only [Act.put, List.getElem_toArray, List.getElem_cons_zero, List.getElem_cons_succ, List.setIfInBounds_toArray, List.set_cons_zero, List.set_cons_succ]
      refine wpAnyL_take (i := 15) 16 (oi := _) (v := ?_) rfl (by kernel_rfl) (by kernel_rfl) (by kernel_rfl) (by kernel_rfl) (fun _ _ _ h => h) (Or.inl ⟨by rfl, ?_⟩) (by assumption) ?_
      rotate_left
      · (intro w hSw; (try dsimp only at hSw); go_simp; try with_reducible rfl)
      try simp only [Act.put, List.getElem_toArray, List.getElem_cons_zero, List.getElem_cons_succ, List.setIfInBounds_toArray, List.set_cons_zero, List.set_cons_succ]
      refine wpAnyL_take (i := 16) 17 (oi := _) (v := ?_) rfl (by kernel_rfl) (by kernel_rfl) (by kernel_rfl) (by kernel_rfl) (fun _ _ _ h => h) (Or.inl ⟨by rfl, ?_⟩) (by assumption) ?_
      rotate_left
      · (intro w hSw; (try dsimp only at hSw); go_simp; try with_reducible rfl)
      try simp only [Act.put, List.getElem_toArray, List.getElem_cons_zero, List.getElem_cons_succ, List.setIfInBounds_toArray, List.set_cons_zero, List.set_cons_succ]
      refine wpAnyL_take (i := 17) 18 (oi := _) (v := ?_) rfl (by kernel_rfl) (by kernel_rfl) (by kernel_rfl) (by kernel_rfl) (fun _ _ _ h => h) (Or.inl ⟨by rfl, ?_⟩) (by assumption) ?_
      rotate_left
      · (intro w hSw; (try dsimp only at hSw); go_simp; try with_reducible rfl)
      try simp only [Act.put, List.getElem_toArray, List.getElem_cons_zero, List.getElem_cons_succ, List.setIfInBounds_toArray, List.set_cons_zero, List.set_cons_succ]
      refine wpAnyL_take (i := 18) 19 (oi := _) (v := ?_) rfl (by kernel_rfl) (by kernel_rfl) (by kernel_rfl) (by kernel_rfl) (fun _ _ _ h => h) (Or.inl ⟨by rfl, ?_⟩) (by assumption) ?_
      rotate_left
      · (intro w hSw; (try dsimp only at hSw); go_simp; try with_reducible rfl)
      try simp only [Act.put, List.getElem_toArray, List.getElem_cons_zero, List.getElem_cons_succ, List.setIfInBounds_toArray, List.set_cons_zero, List.set_cons_succ]
      refine wpAnyL_take (i := 19) 20 (oi := _) (v := ?_) rfl (by kernel_rfl) (by kernel_rfl) (by kernel_rfl) (by kernel_rfl) (fun _ _ _ h => h) (Or.inl ⟨by rfl, ?_⟩) (by assumption) ?_
      rotate_left
      · (intro w hSw; (try dsimp only at hSw); go_simp; try with_reducible rfl)
      try simp only [Act.put, List.getElem_toArray, List.getElem_cons_zero, List.getElem_cons_succ, List.setIfInBounds_toArray, List.set_cons_zero, List.set_cons_succ]
      try rw [decide_eq_true hobw]
      refine wpAnyL_take (i := 20) 21 (oi := _) (v := ?_) rfl (by kernel_rfl) (by kernel_rfl) (by kernel_rfl) (by kernel_rfl) (fun _ _ _ h => h) (Or.inl ⟨by rfl, ?_⟩) (by assumption) ?_
      rotate_left
      · (intro w hSw; (try dsimp only at hSw); go_simp; try with_reducible rfl)
      try simp only [Act.put, List.getElem_toArray, List.getElem_cons_zero, List.getElem_cons_succ, List.setIfInBounds_toArray, List.set_cons_zero, List.set_cons_succ]
      refine wpAnyL_take (i := 21) 22 (oi := _) (v := ?_) rfl (by kernel_rfl) (by kernel_rfl) (by kernel_rfl) (by kernel_rfl) (fun _ _ _ h => h) (Or.inl ⟨by rfl, ?_⟩) (by assumption) ?_
      rotate_left
      · (intro w hSw; (try dsimp only at hSw); go_simp; try with_reducible rfl)
      try simp only [Act.put, List.getElem_toArray, List.getElem_cons_zero, List.getElem_cons_succ, List.setIfInBounds_toArray, List.set_cons_zero, List.set_cons_succ]
      refine wpAnyL_take (i := 22) 23 (oi := _) (v := ?_) rfl (by kernel_rfl) (by kernel_rfl) (by kernel_rfl) (by kernel_rfl) (fun _ _ _ h => h) (Or.inl ⟨by rfl, ?_⟩) (by assumption) ?_
      rotate_left
      · (intro w hSw; (try dsimp only at hSw); go_simp; try with_reducible rfl)
      try simp only [Act.put, List.getElem_toArray, List.getElem_cons_zero, List.getElem_cons_succ, List.setIfInBounds_toArray, List.set_cons_zero, List.set_cons_succ]
      refine wpAnyL_take (i := 23) 24 (oi := _) (v := ?_) rfl (by kernel_rfl) (by kernel_rfl) (by kernel_rfl) (by kernel_rfl) (fun _ _ _ h => h) (Or.inl ⟨by rfl, ?_⟩) (by assumption) ?_
      rotate_left
      · (intro w hSw; (try dsimp only at hSw); go_simp; try with_reducible rfl)
      try simp only [Act.put, List.getElem_toArray, List.getElem_cons_zero, List.getElem_cons_succ, List.setIfInBounds_toArray, List.set_cons_zero, List.set_cons_succ]
      refine wpAnyL_take (i := 25) 26 (oi := _) (v := ?_) rfl (by kernel_rfl) (by kernel_rfl) (by kernel_rfl) (by kernel_rfl) (fun _ _ _ h => h) (Or.inl ⟨by rfl, ?_⟩) (by assumption) ?_
      rotate_left
      · (intro w hSw; (try dsimp only at hSw); go_simp; try with_reducible rfl)
      try simp only [Act.put, List.getElem_toArray, List.getElem_cons_zero, List.getElem_cons_succ, List.setIfInBounds_toArray, List.set_cons_zero, List.set_cons_succ]
      refine wpAnyL_two (i := 24) (j := 26) (oi := _) (oj := _) (by kernel_rfl) rfl rfl (fun K hK => ?_) (fun K hK => ?_)
      · skip
        have HXX := Lib.hid (And.intro HX.out.1 True.intro)
        have HC := Lib.hid (oursC J6 _ W3 _ (dc - 1) [x2] (HXX.out.1) (by simp) hsd)
        go_simp
        try clear hHeld
        refine HC.out.mono ?_
        clear HC hsd
        rintro e w7 ⟨J7, E, ec, os7, rfl, hle7, hsd, ho7, hoe7⟩
        obtain ⟨z7, rfl⟩ := one_of (by have := congrArg List.length hoe7; simpa [pks] using this)
        refine hK.out _ _ (HSS.out _ _ _ (by simp) hsd) (fun hHeld => ?_)
        clear hK K
        try simp only [Act.put, List.getElem_toArray, List.getElem_cons_zero, List.getElem_cons_succ, List.setIfInBounds_toArray, List.set_cons_zero, List.set_cons_succ]
        have HO7 := Lib.hid (And.intro ho7 hoe7)
        have HLE := Lib.hid (HLE.out.trans hle7)
        have HIN := Lib.hid (HIN.out.mono hle7)
        clear ho7 hoe7 hle7
        refine wpAnyL_one (i := 26) (o := _) (by kernel_rfl) rfl (fun K hK => ?_)
        go_simp
        have hs8 := hsd.alloc 51 #[.int .i64 5, .int .u32 1, .int .u32 2, .int .u64 0, .int .u32 0, .int .u32 0, .int .u32 0, .slice none 0 0, .string ⟨#[]⟩, .slice none 0 0, .slice A2 n c2, .int .u16 0, .int .u32 0, .int .u8 0, .slice none 0 0, .slice none 0 0]
        obtain ⟨r, hr⟩ : ∃ r, r = w7.heap.size := ⟨_, rfl⟩
        rw [← hr] at hs8
        try clear hHeld
        refine hK.out _ _ (HSS.out _ _ _ (by simp) hs8) (fun hHeld => ?_)
        clear hK K
        try simp only [Act.put, List.getElem_toArray, List.getElem_cons_zero, List.getElem_cons_succ, List.setIfInBounds_toArray, List.set_cons_zero, List.set_cons_succ]
        rw [← hr]
        generalize World.alloc w7 _ = W8 at hs8 hHeld ⊢
        obtain ⟨J8, hle8, hsd8, hobj⟩ := hs8.freezeBlk
        have HPM := Lib.hid (show Pks J8 (some ⟨r, 0, none⟩) [(misP base os, (⟨nilV, nilV, .slice A2 n c2, nilV, nilV⟩ : Vs))] from ⟨Cells.ofBlk hobj, fun x hx => by
          rw [List.mem_singleton.1 hx]
          exact ⟨HIN.out.mono hle8, mis_raw HOF.out.2⟩, by simp⟩)
        clear hs8 hobj hsd hr
        have hsd := hsd8
        clear hsd8
        have HO7 := Lib.hid (And.intro (HO7.out.1.mono hle8) HO7.out.2)
        have HLE := Lib.hid (HLE.out.trans hle8)
        clear hle8
        have HC := Lib.hid (oursC J8 _ W8 _ 1 [(misP base os, (⟨nilV, nilV, .slice A2 n c2, nilV, nilV⟩ : Vs))] HPM.out (by simp) hsd)
        refine wpAnyL_one (i := 27) (o := _) (by kernel_rfl) rfl (fun K hK => ?_)
        go_simp
        try clear hHeld
        refine HC.out.mono ?_
        clear HC hsd
        rintro e w10 ⟨J10, F, fc, os9, rfl, hle10, hsd, ho9, hoe9⟩
        obtain ⟨z9, rfl⟩ := one_of (by have := congrArg List.length hoe9; simpa [pks] using this)
        refine hK.out _ _ (HSS.out _ _ _ (by simp) hsd) (fun hHeld => ?_)
        clear hK K
        try simp only [Act.put, List.getElem_toArray, List.getElem_cons_zero, List.getElem_cons_succ, List.setIfInBounds_toArray, List.set_cons_zero, List.set_cons_succ]
        have HC := Lib.hid (sameC J10 _ w10 E F ec fc [z7] [z9] (HO7.out.1.mono hle10) ho9 hsd)
        have HEQ := Lib.hid (show pks [z7] = pks [z9] by rw [HO7.out.2, hoe9]; simp [pks, HX.out.2])
        have HLE := Lib.hid (HLE.out.trans hle10)
        clear ho9 hoe9 hle10
        refine wpAnyL_one (i := 28) (o := _) (by kernel_rfl) rfl (fun K hK => ?_)
        go_simp
        try clear hHeld
        refine HC.out.mono ?_
        clear HC hsd
        rintro e w11 ⟨_, J11, M11, rfl, hle11, hsd, hJ11, ⟨tt, rfl, htt⟩, hM11⟩
        obtain rfl : tt = true := htt.2 HEQ.out
        rw [hM11] at hsd
        refine hK.out _ _ (HSS.out _ _ _ (by simp) hsd) (fun hHeld => ?_)
        clear hK K
        try simp only [Act.put, List.getElem_toArray, List.getElem_cons_zero, List.getElem_cons_succ, List.setIfInBounds_toArray, List.set_cons_zero, List.set_cons_succ]
        have HF := Lib.hid (show Yes I M (.returned (.bool true)) w11 from Ret.mk (HLE.out.trans hle11) hsd.drop ⟨rfl, rfl⟩)
        clear hle11 hJ11 hM11 htt
        refine wpAnyL_take (i := 29) 30 (oi := _) (v := ?_) rfl (by kernel_rfl) (by kernel_rfl) (by kernel_rfl) (by kernel_rfl) (fun _ _ _ h => h) (Or.inl ⟨by rfl, ?_⟩) (by assumption) ?_
        rotate_left
        · (intro w hSw; (try dsimp only at hSw); go_simp; try with_reducible rfl)
        try simp only [Act.put, List.getElem_toArray, List.getElem_cons_zero, List.getElem_cons_succ, List.setIfInBounds_toArray, List.set_cons_zero, List.set_cons_succ]
        refine wpAnyL_last (i := 30) (o := _) (by kernel_rfl) rfl (by kernel_rfl) (by kernel_rfl) (fun K hK => ?_)
        go_simp
        try clear hHeld
        refine hK.out _ _ ?_
        clear hK K
        try simp only [Act.put, List.getElem_toArray, List.getElem_cons_zero, List.getElem_cons_succ, List.setIfInBounds_toArray, List.set_cons_zero, List.set_cons_succ]
        clear hsd
        go_wp2
        go_returns
        exact HF.out
      · skip
        go_simp
        have hs8 := hsd.alloc 51 #[.int .i64 5, .int .u32 1, .int .u32 2, .int .u64 0, .int .u32 0, .int .u32 0, .int .u32 0, .slice none 0 0, .string ⟨#[]⟩, .slice none 0 0, .slice A2 n c2, .int .u16 0, .int .u32 0, .int .u8 0, .slice none 0 0, .slice none 0 0]
        obtain ⟨r, hr⟩ : ∃ r, r = W3.heap.size := ⟨_, rfl⟩
        rw [← hr] at hs8
        try clear hHeld
        refine hK.out _ _ (HSS.out _ _ _ (by simp) hs8) (fun hHeld => ?_)
        clear hK K
        try simp only [Act.put, List.getElem_toArray, List.getElem_cons_zero, List.getElem_cons_succ, List.setIfInBounds_toArray, List.set_cons_zero, List.set_cons_succ]
        rw [← hr]
        generalize World.alloc W3 _ = W8 at hs8 hHeld ⊢
        obtain ⟨J8, hle8, hsd8, hobj⟩ := hs8.freezeBlk
        have HPM := Lib.hid (show Pks J8 (some ⟨r, 0, none⟩) [(misP base os, (⟨nilV, nilV, .slice A2 n c2, nilV, nilV⟩ : Vs))] from ⟨Cells.ofBlk hobj, fun x hx => by
          rw [List.mem_singleton.1 hx]
          exact ⟨HIN.out.mono hle8, mis_raw HOF.out.2⟩, by simp⟩)
        clear hs8 hobj hsd hr
        have hsd := hsd8
        clear hsd8
        have HLE := Lib.hid (HLE.out.trans hle8)
        have HXX := Lib.hid (And.intro (HX.out.1.mono hle8) True.intro)
        clear hle8
        refine wpAnyL_one (i := 24) (o := _) (by kernel_rfl) rfl (fun K hK => ?_)
        have HC := Lib.hid (oursC J8 _ W8 _ (dc - 1) [x2] (HXX.out.1) (by simp) hsd)
        go_simp
        try clear hHeld
        refine HC.out.mono ?_
        clear HC hsd
        rintro e w7 ⟨J7, E, ec, os7, rfl, hle7, hsd, ho7, hoe7⟩
        obtain ⟨z7, rfl⟩ := one_of (by have := congrArg List.length hoe7; simpa [pks] using this)
        refine hK.out _ _ (HSS.out _ _ _ (by simp) hsd) (fun hHeld => ?_)
        clear hK K
        try simp only [Act.put, List.getElem_toArray, List.getElem_cons_zero, List.getElem_cons_succ, List.setIfInBounds_toArray, List.set_cons_zero, List.set_cons_succ]
        have HO7 := Lib.hid (And.intro ho7 hoe7)
        have HPM := Lib.hid (HPM.out.mono hle7)
        have HLE := Lib.hid (HLE.out.trans hle7)
        clear ho7 hoe7 hle7
        have HC := Lib.hid (oursC J7 _ w7 _ 1 [(misP base os, (⟨nilV, nilV, .slice A2 n c2, nilV, nilV⟩ : Vs))] HPM.out (by simp) hsd)
        refine wpAnyL_one (i := 27) (o := _) (by kernel_rfl) rfl (fun K hK => ?_)
        go_simp
        try clear hHeld
        refine HC.out.mono ?_
        clear HC hsd
        rintro e w10 ⟨J10, F, fc, os9, rfl, hle10, hsd, ho9, hoe9⟩
        obtain ⟨z9, rfl⟩ := one_of (by have := congrArg List.length hoe9; simpa [pks] using this)
        refine hK.out _ _ (HSS.out _ _ _ (by simp) hsd) (fun hHeld => ?_)
        clear hK K
        try simp only [Act.put, List.getElem_toArray, List.getElem_cons_zero, List.getElem_cons_succ, List.setIfInBounds_toArray, List.set_cons_zero, List.set_cons_succ]
        have HC := Lib.hid (sameC J10 _ w10 E F ec fc [z7] [z9] (HO7.out.1.mono hle10) ho9 hsd)
        have HEQ := Lib.hid (show pks [z7] = pks [z9] by rw [HO7.out.2, hoe9]; simp [pks, HX.out.2])
        have HLE := Lib.hid (HLE.out.trans hle10)
        clear ho9 hoe9 hle10
        refine wpAnyL_one (i := 28) (o := _) (by kernel_rfl) rfl (fun K hK => ?_)
        go_simp
        try clear hHeld
        refine HC.out.mono ?_
        clear HC hsd
        rintro e w11 ⟨_, J11, M11, rfl, hle11, hsd, hJ11, ⟨tt, rfl, htt⟩, hM11⟩
        obtain rfl : tt = true := htt.2 HEQ.out
        rw [hM11] at hsd
        refine hK.out _ _ (HSS.out _ _ _ (by simp) hsd) (fun hHeld => ?_)
        clear hK K
        try simp only [Act.put, List.getElem_toArray, List.getElem_cons_zero, List.getElem_cons_succ, List.setIfInBounds_toArray, List.set_cons_zero, List.set_cons_succ]
        have HF := Lib.hid (show Yes I M (.returned (.bool true)) w11 from Ret.mk (HLE.out.trans hle11) hsd.drop ⟨rfl, rfl⟩)
        clear hle11 hJ11 hM11 htt
        refine wpAnyL_take (i := 29) 30 (oi := _) (v := ?_) rfl (by kernel_rfl) (by kernel_rfl) (by kernel_rfl) (by kernel_rfl) (fun _ _ _ h => h) (Or.inl ⟨by rfl, ?_⟩) (by assumption) ?_
        rotate_left
        · (intro w hSw; (try dsimp only at hSw); go_simp; try with_reducible rfl)
        try simp only [Act.put, List.getElem_toArray, List.getElem_cons_zero, List.getElem_cons_succ, List.setIfInBounds_toArray, List.set_cons_zero, List.set_cons_succ]
        refine wpAnyL_last (i := 30) (o := _) (by kernel_rfl) rfl (by kernel_rfl) (by kernel_rfl) (fun K hK => ?_)
        go_simp
        try clear hHeld
        refine hK.out _ _ ?_
        clear hK K
        try simp only [Act.put, List.getElem_toArray, List.getElem_cons_zero, List.getElem_cons_succ, List.setIfInBounds_toArray, List.set_cons_zero, List.set_cons_succ]
        clear hsd
        go_wp2
        go_returns
        exact HF.out
      )
    clear hK9
    obtain ⟨i, t, os, n, A2, c2, rfl, rfl, hi, hni, hn32, hh⟩ := hrel
    clear HS
    obtain ⟨hof, hn, hs⟩ := hh.out
    clear hh
    have HNI := Lib.hid hni
    clear hni
    have HOF := Lib.hid (And.intro hof (show os.length ≤ 32 by omega))
    have HN := Lib.hid hn
    have HS := Lib.hid hs
    obtain ⟨ht0, ht1⟩ := hof.top
    clear hs hn hof
    by_cases hlt : i < st.length
    · skip
      obtain ⟨g2, o2, rfl, hcell⟩ := (HB.out.1.mono HLE.out).at (by omega)
      have hy := hcell _ _ HS.out i hlt
      have hy2 := UInt8.toNat_lt st[i]
      have hlti : (i : Int) < (st.length : Int) := by omega
      clear hcell
      generalize st[i].toNat = y at hy hy2
      have hyi : (y : Int) ≤ 255 := by omega
      obtain ⟨hcq, hfq, hlq⟩ := Blk.all (HS.out.at 1 rfl)
      obtain ⟨yi, hyy⟩ : ∃ z : Int, z = (y : Int) := ⟨_, rfl⟩
      rw [← hyy] at hy hyi
      have hy0 : 0 ≤ yi := by omega
      clear hyy hy2
      rcases Int.lt_or_le 30 (i : Int) with h31 | h31
      · have h31a : (31 : Int) ≤ (i : Int) := by omega
        go_wp2
        exact HT.out _ _ _ _ _ _ _ _ _ _ _ _ _ _ _ _ _ _ _ _ _ _ _ _ _ _ _ _ _ _ t os n A2 c2 HOF HN HS
      have h31b : ¬ (31 : Int) ≤ (i : Int) := by omega
      rcases Int.lt_or_le (t + 1 + yi) 32768 with h32 | h32
      · skip
        go_upto_region 10 with fail
        clear hy hlti
        have hsr := HS.out.litSrcV (P := Try.prog) (t := 44) (e := 42) (cs := #[.int .u16 ((base + (t + 1 + yi)) % 65536)]) (n := 1) (size := 1) rfl (by decide) Try.underlying44 (by simp [Value.oneCell'])
        have hsg := HS.out.grow (.cells #[.int .u16 ((base + (t + 1 + yi)) % 65536)] 42)
        obtain ⟨i0, hi0, hz0, hz1, hz2⟩ := info_parts info42
        have hwv : (base + (t + 1 + yi) % 65536) % 65536 = (base + (t + 1 + yi)) % 65536 := by omega
        go_wp2_with (at_builtin; refine wpList_append_src _ rfl _ _ 44 44 rfl 0 42 i0 (.int .u16 0) 1 2 Try.underlying44 hi0 hz0 hz1 hz2 rfl _ n (flat u16C (atL base os)) rfl hsg.head _ 1 _ rfl hsr (by unfold maxLen; omega) (by omega) (Nat.zero_le _) ?_)
        intro v' w5 hown' hgrow hat
        have hown2 : w5.ownsRow 0 42 1 v' (n + 1) (flat u16C (atL base (os ++ [t + 1 + yi]))) := by rw [show atL base (os ++ [t + 1 + yi]) = atL base os ++ [(base + (t + 1 + yi)) % 65536] by simp [atL], flat_append]; simpa [flat] using hown'
        obtain ⟨A10, c10, rfl⟩ := own_form hown2
        have hs5 := hsg.grown hgrow hown2 (by simpa using hat)
        have HS6 := Lib.hid (hs5.swap1.set 10 (.slice A10 (n + 1) c10)).swap1
        obtain ⟨hcp, hfp, hlp⟩ := Blk.all (hs5.at 1 rfl)
        clear hs5 hown' hown2 hgrow hat hsr hsg hcq hfq hlq
        go_wp2
        go_roundw
        case rel => exact ⟨i + 1, t + 1 + yi, os ++ [t + 1 + yi], n + 1, A10, c10, rfl, by go_num, by omega, by rw [HNI.out], by have := HNI.out; omega, Lib.hid ⟨HOF.out.1.snoc (by omega) h32, by rw [List.length_append, ← HN.out]; rfl, HS6.out⟩⟩
        case measure => simp [intOf]; omega
      · have h32a : (32768 : Int) ≤ t + 1 + yi := h32
        go_wp2
        exact HT.out _ _ _ _ _ _ _ _ _ _ _ _ _ _ _ _ _ _ _ _ _ _ _ _ _ _ _ _ _ _ t os n A2 c2 HOF HN HS
    · have hin : i = st.length := by omega
      subst hin
      go_wp2
      exact HT.out _ _ _ _ _ _ _ _ _ _ _ _ _ _ _ _ _ _ _ _ _ _ _ _ _ _ _ _ _ _ t os n A2 c2 HOF HN HS
end Go.Proofs.Ytddopbbmgpnjjaa
