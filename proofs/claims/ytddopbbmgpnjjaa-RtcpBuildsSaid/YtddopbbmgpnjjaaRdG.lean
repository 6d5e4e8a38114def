/- the document's arrivals. -/
import Derived.Test.YtddopbbmgpnjjaaRdF
namespace Go.Proofs.Ytddopbbmgpnjjaa
open Go.RowKit
set_option linter.unusedSimpArgs false

theorem step_appB {ops : Array Oper} {o : Oper} {a : Act} {K : Act → World → Prop} {Q : Exit → Act → World → Prop} {E : Prop} {w : World} (hgd : o.guard = none) (s y : Operand)
    (ho : o.op = .call { callee := .builtin .append, args := #[s, y], argTypes := #[24, 24] })
    (I : Img) (M : List Res) (v u : Value) (bs cs : List UInt8) (hv : a.eval s = v) (hu : a.eval y = u) (hst : St I (row 5 1 v bs.length (bvs bs) :: M) w) (hb : RoB cs u I) (hl : bs.length + cs.length ≤ 140737488355328)
    (h : ∀ v' w', Apd I M (bs ++ cs) v' w' → K (a.put o.dst v') w') : if Region.wanted o (yielded ops a.tmps) = true then Oper.wp Try.prog o a w K Q else E := by
  obtain ⟨i0, hi, hz0, hz1, hz2⟩ := info_parts infoU8
  obtain ⟨A, c, rfl, hb⟩ := hb
  refine step_append_src w hgd s y 24 24 ho 0 5 i0 (.int .u8 0) 1 1 Try.underlying24 hi hz0 hz1 hz2 rfl v bs.length (bvs bs) hv (show World.ownsRow _ 0 5 1 v bs.length (bvs bs) from hst.head) _ cs.length (bvs cs) hu (hb.src hst Try.underlying24 c) (by unfold maxLen; omega) (by omega) (Nat.zero_le _) ?_
  intro v' w' hown hgrow hat
  rw [← bvs_append, ← List.length_append] at hown
  exact h v' w' (hst.grown hgrow hown hat)
theorem far_take (l : List Int) (j : Nat) (h : j < l.length) : (l.take (j + 1)).flatMap farO = (l.take j).flatMap farO ++ farO l[j] := by
  rw [List.take_succ_eq_append_getElem h, List.flatMap_append, List.flatMap_singleton]
theorem far_out (l : List Int) (j : Nat) (h : l.length ≤ j) : (l.take (j + 1)).flatMap farO = (l.take j).flatMap farO := by
  rw [List.take_of_length_le (by omega), List.take_of_length_le h]
theorem far_len (l : List Int) (j : Nat) : ((l.take j).flatMap farO).length ≤ 2 * l.length := by
  have : ∀ r : List Int, (r.flatMap farO).length ≤ 2 * r.length := by
    intro r
    induction r with
    | nil => simp
    | cons x r ih =>
      rw [List.flatMap_cons, List.length_append, List.length_cons]
      have := farO_le x
      omega
  have h := this (l.take j)
  have : (l.take j).length ≤ l.length := List.length_take_le' ..
  omega
/-- the number of a word of marks, of k of which it is known -/
def wK (l : List Int) (i k : Nat) : Int := 49152 + (cv l i k * 4 ^ (7 - k) : Nat)
theorem wK_ok (l : List Int) (i k : Nat) (hk : k ≤ 7) : 49152 ≤ wK l i k ∧ wK l i k ≤ 65535 := by
  have h := cv_lt l i k
  have h2 : cv l i k * 4 ^ (7 - k) < 4 ^ 7 := by
    have : (4 : Nat) ^ 7 = 4 ^ k * 4 ^ (7 - k) := by rw [← Nat.pow_add]; congr 1; omega
    rw [this]
    exact Nat.mul_lt_mul_of_pos_right h (Nat.pow_pos (by decide))
  unfold wK
  generalize cv l i k * 4 ^ (7 - k) = z at h2
  have : (4 : Nat) ^ 7 = 16384 := rfl
  omega
theorem wK_next (l : List Int) (i k : Nat) (hk : k < 7) : wK l i (k + 1) = wK l i k + (mkN l (i + k) : Int) * ((4 ^ (6 - k) : Nat) : Int) := by
  unfold wK
  have e : 7 - k = (6 - k) + 1 := by omega
  have e2 : 7 - (k + 1) = 6 - k := by omega
  show 49152 + (((4 * cv l i k + mkN l (i + k)) * 4 ^ (7 - (k + 1)) : Nat) : Int) = _
  rw [e2, e, Nat.pow_succ, Nat.add_mul, ← Int.natCast_mul]
  have h3 : 4 * cv l i k * 4 ^ (6 - k) = cv l i k * (4 ^ (6 - k) * 4) := by
    rw [Nat.mul_comm 4, Nat.mul_assoc, Nat.mul_comm 4]
  rw [h3]
  generalize cv l i k * (4 ^ (6 - k) * 4) = p
  generalize mkN l (i + k) * 4 ^ (6 - k) = q
  omega
theorem wK_out (l : List Int) (i k : Nat) (hk : k < 7) (h : mkN l (i + k) = 0) : wK l i (k + 1) = wK l i k := by
  rw [wK_next l i k hk, h]
  simp
theorem pow_same (k : Nat) (_ : k < 7) : ((4 ^ (6 - k) : Nat) : Int) = (2 : Int) ^ (12 - 2 * k) := by
  have e : 12 - 2 * k = 2 * (6 - k) := by omega
  have h : (4 : Nat) ^ (6 - k) = 2 ^ (12 - 2 * k) := by rw [e, Nat.pow_mul]
  rw [h]; simp
theorem pow_le (k : Nat) : 0 ≤ (2 : Int) ^ (12 - 2 * k) ∧ (2 : Int) ^ (12 - 2 * k) ≤ 4096 := by
  have h : (2 : Nat) ^ (12 - 2 * k) ≤ 2 ^ 12 := Nat.pow_le_pow_right (by decide) (by omega)
  have h2 : ((2 : Int) ^ (12 - 2 * k)) = ((2 ^ (12 - 2 * k) : Nat) : Int) := by simp
  rw [h2]
  generalize (2 : Nat) ^ (12 - 2 * k) = p at h ⊢
  omega
theorem St.less1 {I J : Img} {M : List Res} {w : World} (h : St J M w) (hl : I.le J) : St I M w := h.less hl
set_option maxRecDepth 8000 in
set_option maxHeartbeats 8000000 in
theorem arrivalsR (I : Img) (M : List Res) (w : World) (A : Option Addr) (z : Nat) (l : List Int) (hc : Cells I A (flat intC l)) (h0 : 1 ≤ l.length) (hl : l.length ≤ 255) (hok : ∀ a ∈ l, badA a = false) (hst : St I M w) :
    Calls Try.prog 40 #[.slice A l.length z] w (Frz I M (arrsL l)) := by
  have HC := Lib.hid hc
  have HOK := Lib.hid hok
  have HS := Lib.hid ((hst.nil (e := 5) (size := 1)).nil (e := 5) (size := 1))
  clear hc hok hst
  go_enter Try.func40, Try.ntmps40
  go_upto_region 3 with fail
  go_loopw [3, 4, 5] (fun mv fv iv wr => ∃ (i t : Nat), i = 7 * t ∧ iv = .int .i64 i ∧ i ≤ l.length + 6 ∧ Hid (St I (row 5 1 mv (marksT l t).length (bvs (marksT l t)) :: row 5 1 fv ((l.take i).flatMap farO).length (bvs ((l.take i).flatMap farO)) :: M) wr)) (fun _ _ iv _ => l.length + 7 - (intOf iv).toNat)
  case atStart => exact ⟨0, 0, rfl, rfl, by omega, HS⟩
  case round =>
    obtain ⟨i, t, hit, rfl, hi, hh⟩ := hrel
    clear HS
    have hs := hh.out
    clear hh
    have HIT := Lib.hid hit
    clear hit
    have HS := Lib.hid hs
    clear hs
    by_cases hlt : i < l.length
    · skip
      obtain ⟨g, o, rfl, hcell⟩ := flat_get (s := 1) (fun _ => rfl) HC.out (by omega) (by decide)
      have HCL := Lib.hid hcell
      have HCI := Lib.hid (show ∀ j (h : j < l.length), I.cell? ⟨g, o + j, none⟩ = some (.int .i64 l[j]) by
        obtain ⟨g2, o2, e, hc2⟩ := HC.out (by rw [flat_len (s := 1) (fun _ => rfl)]; omega)
        injection e with e
        injection e with e1 e2
        subst e1 e2
        intro j h
        have h3 := hc2 j (by rw [flat_len (s := 1) (fun _ => rfl)]; omega)
        have h4 := flat_at (s := 1) (f := intC) (fun _ => rfl) l j 0 h (by decide)
        rw [h3, ← List.getElem?_eq_getElem (by rw [flat_len (s := 1) (fun _ => rfl)]; omega)]
        simpa using h4)
      clear hcell
      go_upto_region 7 with fail
      go_loopw [4, 6, 15] (fun fv nv kv wr' => ∃ (k j : Nat) (n : Int), j = i + k ∧ kv = .int .i64 k ∧ nv = .int .i64 n ∧ k ≤ 7 ∧ 49152 ≤ n ∧ n ≤ 65535 ∧ Hid (n = wK l i k ∧ St I (row 5 1 u3 (marksT l t).length (bvs (marksT l t)) :: row 5 1 fv ((l.take j).flatMap farO).length (bvs ((l.take j).flatMap farO)) :: M) wr')) (fun _ _ kv _ => 7 - (intOf kv).toNat)
      case atStart => exact ⟨0, i, 49152, rfl, rfl, rfl, by omega, by omega, by omega, Lib.hid ⟨by simp [wK, cv], HS.out⟩⟩
      case round =>
        obtain ⟨k, j, n, hj, rfl, rfl, hk, hn1, hn2, hh⟩ := hrel
        obtain ⟨hn, hs⟩ := hh.out
        clear hh HS
        have HN := Lib.hid hn
        have HS := Lib.hid hs
        have HFL := Lib.hid (far_len l j)
        clear hn hs
        by_cases hk7 : k < 7
        · skip
          have hij : (i : Int) + (k : Int) = (j : Int) := by omega
          have HJ := Lib.hid hj
          clear hj
          have hjb : (j : Int) ≤ 1000 := by omega
          by_cases hjl : j < l.length
          case neg =>
            have hjl' : (l.length : Int) ≤ (j : Int) := by omega
            have HR := Lib.hid (show n = wK l i (k + 1) by rw [wK_out l i k hk7 (mkN_out (by have := HJ.out; omega)), HN.out])
            go_wp2
            go_roundw
            case rel =>
              refine ⟨k + 1, j + 1, n, by have := HJ.out; omega, by go_num, rfl, by omega, by omega, by omega, Lib.hid (And.intro HR.out ?_)⟩
              rw [far_out l j (by omega)]
              exact HS.out
            case measure => simp [intOf]; omega
          have hjl' : (j : Int) < (l.length : Int) := by omega
          have y0 : wr.cell? ⟨g, o + j, none⟩ = some (.int .i64 l[j]) := by
            have := HCL.out _ _ HS.out j hjl 0 (by decide)
            simpa using this
          have hbad := HOK.out _ (List.getElem_mem hjl)
          have HMK := Lib.hid (mkN_in hjl)
          have HFT := Lib.hid (far_take l j hjl)
          obtain ⟨x, hx⟩ : ∃ x, x = l[j] := ⟨_, rfl⟩
          rw [← hx] at y0 hbad HMK HFT
          have HCX := Lib.hid (show I.cell? ⟨g, o + j, none⟩ = some (.int .i64 x) by
            have := HCI.out j hjl
            rw [hx]
            exact this)
          clear hx
          have hxr : x = 65536 ∨ (-32768 ≤ x ∧ x ≤ 32767) := by
            unfold badA at hbad
            by_cases e : x = 65536
            · exact .inl e
            · right
              have : (x != 65536) = true := by simpa using e
              rw [this, Bool.true_and] at hbad
              exact within_yes (by simpa using hbad)
          clear hbad
          by_cases hx0 : x = 65536
          case pos =>
            subst hx0
            have HR := Lib.hid (show n = wK l i (k + 1) by rw [wK_out l i k hk7 (by rw [← HJ.out]; have := HMK.out; unfold markOf at this; simp at this; omega), HN.out])
            go_wp2
            go_roundw
            case rel =>
              refine ⟨k + 1, j + 1, n, by have := HJ.out; omega, by go_num, rfl, by omega, by omega, by omega, Lib.hid (And.intro HR.out ?_)⟩
              have e : farO 65536 = [] := by unfold farO markOf; simp
              rw [HFT.out, e, List.append_nil]
              exact HS.out
            case measure => simp [intOf]; omega
          have hxe : (x == 65536) = false := by simpa using hx0
          have hjn : ¬ l.length ≤ j := by omega
          obtain ⟨hx1, hx2⟩ : -32768 ≤ x ∧ x ≤ 32767 := by omega
          clear hxr
          have hwr := wK_ok l i (k + 1) (by omega)
          have hnx := wK_next l i k hk7
          rw [← HN.out, ← HJ.out, pow_same k hk7] at hnx
          obtain ⟨n2, hn2e⟩ : ∃ n2, n2 = wK l i (k + 1) := ⟨_, rfl⟩
          rw [← hn2e] at hnx hwr
          obtain ⟨hm1, hm2⟩ := hwr
          by_cases hx255 : 0 ≤ x ∧ x ≤ 255
          · skip
            obtain ⟨hx3, hx4⟩ := hx255
            have hmk : (mkN l j : Int) = 1 := by rw [HMK.out]; unfold markOf; rw [if_neg hx0, if_pos ⟨hx3, hx4⟩]
            rw [hmk, Int.one_mul] at hnx
            have hv : wrap64 (n + wrap64 (2 ^ (12 - 2 * k))) = n2 := by
              rw [hnx]
              have hp := pow_le k
              rw [hnx] at hm1 hm2
              generalize (2 : Int) ^ (12 - 2 * k) = p at hp hm1 hm2 ⊢
              have e1 : wrap64 (p) = p := wrap64_id (by omega) (by omega)
              rw [e1, wrap64_id (by omega) (by omega)]
            have hfo : farO x = [byteOf x] := by
              have hm1 : markOf x = 1 := by unfold markOf; rw [if_neg hx0, if_pos ⟨hx3, hx4⟩]
              have : x % 256 = x := by omega
              unfold farO
              rw [hm1, this]
              rfl
            have HRW := Lib.hid hn2e
            have HFO := Lib.hid hfo
            clear hnx hmk hfo hn2e
            obtain ⟨J1, hle1, hs1, hobj⟩ := (HS.out.swap1.alloc 5 #[.int .u8 x]).freezeBlk
            have hb1 : RoB [byteOf x] (.slice (some ⟨wr.heap.size, 0, none⟩) 1 1) J1 := ⟨_, 1, rfl, Byts.ofBlk hobj (by simp only [bvs, List.map_cons, List.map_nil]; rw [bv_byteOf hx3 (by omega)])⟩
            go_wp2_with (at_builtin; refine wpList_appB rfl _ _ rfl J1 _ _ _ _ _ rfl rfl hs1 hb1 (by have := HFL.out; simp only [List.length_cons, List.length_nil]; omega) ?_)
            intro v3 w3 hs3
            have HS3 := Lib.hid (St.swap1 hs3)
            have HLE := Lib.hid hle1
            clear hs1 hs3 hb1 hobj hle1
            go_wp2
            go_roundw
            case rel =>
              refine ⟨k + 1, j + 1, n2, by have := HJ.out; omega, by go_num, by first | rfl | rw [hv], by omega, by omega, by omega, Lib.hid (And.intro HRW.out ?_)⟩
              rw [HFT.out, HFO.out]
              exact HS3.out.less1 HLE.out
            case measure => simp [intOf]; omega
          have hmk : (mkN l j : Int) = 2 := by rw [HMK.out]; unfold markOf; rw [if_neg hx0, if_neg hx255]
          rw [hmk] at hnx
          have hv : wrap64 (n + wrap64 (2 * 2 ^ (12 - 2 * k))) = n2 := by
            rw [hnx]
            have hp := pow_le k
            rw [hnx] at hm1 hm2
            generalize (2 : Int) ^ (12 - 2 * k) = p at hp hm1 hm2 ⊢
            have e1 : wrap64 (2 * p) = 2 * p := wrap64_id (by omega) (by omega)
            rw [e1, wrap64_id (by omega) (by omega)]
          have hfo : farO x = u16B (x % 65536) := by
            have hm1 : markOf x = 2 := by unfold markOf; rw [if_neg hx0, if_neg hx255]
            unfold farO
            rw [hm1]
            rfl
          have HRW := Lib.hid hn2e
          have HFO := Lib.hid hfo
          clear hnx hmk hfo hn2e
          have h255 : ¬ (0 ≤ x) ∨ (0 ≤ x ∧ 255 < x) := by omega
          rcases h255 with hx3 | ⟨hx3, hx4⟩
          · skip
            go_upto_region 14 with fail
            have hjw : IntKind.i64.wrap (j : Int) = (j : Int) := wrap_i64 (by omega) (by omega)
            have HSS := Lib.hid (fun (J : Img) (M' : List Res) (w' : World) (hle : I.le J) (hs : St J M' w') => (show w'.cell? ⟨g, o + j, none⟩ = some (.int .i64 x) from hs.cell (hle.cell (HCX.out))))
            refine wp_region_held_drew (S := fun w' => w'.cell? ⟨g, o + j, none⟩ = some (.int .i64 x)) (by kernel_rfl) (HSS.out I _ _ (.refl I) HS.out.drew) (fun hHeld => ?_)
            refine wpAnyH_take (i := 0) (oi := _) (v := ?_) rfl (by kernel_rfl) (by kernel_rfl) (by kernel_rfl) (fun _ _ _ h => h) (Or.inl ⟨by rfl, ?_⟩) (by assumption) ?_
            rotate_left
            · (intro w hSw; (try dsimp only at hSw); go_simp; try with_reducible rfl)
            try simp only [Act.put, List.getElem_toArray, List.getElem_cons_zero, List.getElem_cons_succ, List.setIfInBounds_toArray, List.set_cons_zero, List.set_cons_succ]
            refine wpAnyH_take (i := 1) (oi := _) (v := ?_) rfl (by kernel_rfl) (by kernel_rfl) (by kernel_rfl) (fun _ _ _ h => h) (Or.inl ⟨by rfl, ?_⟩) (by assumption) ?_
            rotate_left
            · (intro w hSw; (try dsimp only at hSw); go_simp; try with_reducible rfl)
            try simp only [Act.put, List.getElem_toArray, List.getElem_cons_zero, List.getElem_cons_succ, List.setIfInBounds_toArray, List.set_cons_zero, List.set_cons_succ]
            refine wpAnyH_take (i := 2) (oi := _) (v := ?_) rfl (by kernel_rfl) (by kernel_rfl) (by kernel_rfl) (fun _ _ _ h => h) (Or.inl ⟨by rfl, ?_⟩) (by assumption) ?_
            rotate_left
            · (intro w hSw; (try dsimp only at hSw); go_simp; try with_reducible rfl)
            try simp only [Act.put, List.getElem_toArray, List.getElem_cons_zero, List.getElem_cons_succ, List.setIfInBounds_toArray, List.set_cons_zero, List.set_cons_succ]
            refine wpAnyH_take (i := 3) (oi := _) (v := ?_) rfl (by kernel_rfl) (by kernel_rfl) (by kernel_rfl) (fun _ _ _ h => h) (Or.inl ⟨by rfl, ?_⟩) (by assumption) ?_
            rotate_left
            · (intro w hSw; (try dsimp only at hSw); go_simp; try with_reducible rfl)
            try simp only [Act.put, List.getElem_toArray, List.getElem_cons_zero, List.getElem_cons_succ, List.setIfInBounds_toArray, List.set_cons_zero, List.set_cons_succ]
            refine wpAnyH_take (i := 4) (oi := _) (v := ?_) rfl (by kernel_rfl) (by kernel_rfl) (by kernel_rfl) (fun _ _ _ h => h) (Or.inl ⟨by rfl, ?_⟩) (by assumption) ?_
            rotate_left
            · (intro w hSw; (try dsimp only at hSw); go_simp; try with_reducible rfl)
            try simp only [Act.put, List.getElem_toArray, List.getElem_cons_zero, List.getElem_cons_succ, List.setIfInBounds_toArray, List.set_cons_zero, List.set_cons_succ]
            refine wpAnyH_take (i := 5) (oi := _) (v := ?_) rfl (by kernel_rfl) (by kernel_rfl) (by kernel_rfl) (fun _ _ _ h => h) (Or.inl ⟨by rfl, ?_⟩) (by assumption) ?_
            rotate_left
            · (intro w hSw; (try dsimp only at hSw); go_simp; try with_reducible rfl)
            try simp only [Act.put, List.getElem_toArray, List.getElem_cons_zero, List.getElem_cons_succ, List.setIfInBounds_toArray, List.set_cons_zero, List.set_cons_succ]
            refine wpAnyH_take (i := 6) (oi := _) (v := ?_) rfl (by kernel_rfl) (by kernel_rfl) (by kernel_rfl) (fun _ _ _ h => h) (Or.inl ⟨by rfl, ?_⟩) (by assumption) ?_
            rotate_left
            · (intro w hSw; (try dsimp only at hSw); go_simp; try with_reducible rfl)
            try simp only [Act.put, List.getElem_toArray, List.getElem_cons_zero, List.getElem_cons_succ, List.setIfInBounds_toArray, List.set_cons_zero, List.set_cons_succ]
            refine wpAnyH_take (i := 7) (oi := _) (v := ?_) rfl (by kernel_rfl) (by kernel_rfl) (by kernel_rfl) (fun _ _ _ h => h) (Or.inl ⟨by rfl, ?_⟩) (by assumption) ?_
            rotate_left
            · (intro w hSw; (try dsimp only at hSw); go_simp; try with_reducible rfl)
            try simp only [Act.put, List.getElem_toArray, List.getElem_cons_zero, List.getElem_cons_succ, List.setIfInBounds_toArray, List.set_cons_zero, List.set_cons_succ]
            refine wpAnyH_take (i := 8) (oi := _) (v := ?_) rfl (by kernel_rfl) (by kernel_rfl) (by kernel_rfl) (fun _ _ _ h => h) (Or.inl ⟨by rfl, ?_⟩) (by assumption) ?_
            rotate_left
            · (intro w hSw; (try dsimp only at hSw); go_simp; try with_reducible rfl)
            try simp only [Act.put, List.getElem_toArray, List.getElem_cons_zero, List.getElem_cons_succ, List.setIfInBounds_toArray, List.set_cons_zero, List.set_cons_succ]
            refine wpAnyH_take (i := 9) (oi := _) (v := ?_) rfl (by kernel_rfl) (by kernel_rfl) (by kernel_rfl) (fun _ _ _ h => h) (Or.inl ⟨by rfl, ?_⟩) (by assumption) ?_
            rotate_left
            · (intro w hSw; (try dsimp only at hSw); go_simp; try with_reducible rfl)
            try simp only [Act.put, List.getElem_toArray, List.getElem_cons_zero, List.getElem_cons_succ, List.setIfInBounds_toArray, List.set_cons_zero, List.set_cons_succ]
            refine wpAnyH_take (i := 10) (oi := _) (v := ?_) rfl (by kernel_rfl) (by kernel_rfl) (by kernel_rfl) (fun _ _ _ h => h) (Or.inl ⟨by rfl, ?_⟩) (by assumption) ?_
            rotate_left
            · (intro w hSw; (try dsimp only at hSw); go_simp; try with_reducible rfl)
            try simp only [Act.put, List.getElem_toArray, List.getElem_cons_zero, List.getElem_cons_succ, List.setIfInBounds_toArray, List.set_cons_zero, List.set_cons_succ]
            refine wpAnyH_take (i := 11) (oi := _) (v := ?_) rfl (by kernel_rfl) (by kernel_rfl) (by kernel_rfl) (fun _ _ _ h => h) (Or.inl ⟨by rfl, ?_⟩) (by assumption) ?_
            rotate_left
            · (intro w hSw; (try dsimp only at hSw); go_simp; try with_reducible rfl)
            try simp only [Act.put, List.getElem_toArray, List.getElem_cons_zero, List.getElem_cons_succ, List.setIfInBounds_toArray, List.set_cons_zero, List.set_cons_succ]
            refine wpAnyH_take (i := 12) (oi := _) (v := ?_) rfl (by kernel_rfl) (by kernel_rfl) (by kernel_rfl) (fun _ _ _ h => h) (Or.inl ⟨by rfl, ?_⟩) (by assumption) ?_
            rotate_left
            · (intro w hSw; (try dsimp only at hSw); go_simp; try with_reducible rfl)
            try simp only [Act.put, List.getElem_toArray, List.getElem_cons_zero, List.getElem_cons_succ, List.setIfInBounds_toArray, List.set_cons_zero, List.set_cons_succ]
            refine wpAnyH_take (i := 13) (oi := _) (v := ?_) rfl (by kernel_rfl) (by kernel_rfl) (by kernel_rfl) (fun _ _ _ h => h) (Or.inl ⟨by rfl, ?_⟩) (by assumption) ?_
            rotate_left
            · (intro w hSw; (try dsimp only at hSw); go_simp; try with_reducible rfl)
            try simp only [Act.put, List.getElem_toArray, List.getElem_cons_zero, List.getElem_cons_succ, List.setIfInBounds_toArray, List.set_cons_zero, List.set_cons_succ]
            refine wpAnyH_take (i := 14) (oi := _) (v := ?_) rfl (by kernel_rfl) (by kernel_rfl) (by kernel_rfl) (fun _ _ _ h => h) (Or.inl ⟨by rfl, ?_⟩) (by assumption) ?_
            rotate_left
            · (intro w hSw; (try dsimp only at hSw); go_simp; try with_reducible rfl)
            try simp only [Act.put, List.getElem_toArray, List.getElem_cons_zero, List.getElem_cons_succ, List.setIfInBounds_toArray, List.set_cons_zero, List.set_cons_succ]
            refine wpAnyH_take (i := 15) (oi := _) (v := ?_) rfl (by kernel_rfl) (by kernel_rfl) (by kernel_rfl) (fun _ _ _ h => h) (Or.inl ⟨by rfl, ?_⟩) (by assumption) ?_
            rotate_left
            · (intro w hSw; (try dsimp only at hSw); go_simp; try with_reducible rfl)
            try simp only [Act.put, List.getElem_toArray, List.getElem_cons_zero, List.getElem_cons_succ, List.setIfInBounds_toArray, List.set_cons_zero, List.set_cons_succ]
            refine wpAnyH_ready (rs := [16]) (by kernel_rfl) (by simp) ?_
            refine AllReadyH.cons (o := _) rfl (fun K hK => ?_) AllReadyH.nil
            go_simp
            try clear hHeld
            refine hK.out _ _ (HSS.out I _ _ (.refl I) (HS.out.drew.grow _)) (fun hHeld => ?_)
            clear hK K
            try simp only [Act.put, List.getElem_toArray, List.getElem_cons_zero, List.getElem_cons_succ, List.setIfInBounds_toArray, List.set_cons_zero, List.set_cons_succ]
            obtain ⟨J1, hle1, hs1, hobj⟩ := (HS.out.drew.swap1.alloc 5 #[.int .u8 (x / 256 % 256), .int .u8 (x % 256)]).freezeBlk
            have hb1 : RoB (u16B (x % 65536)) (.slice (some ⟨wr.drew.heap.size, 0, none⟩) 2 2) J1 := ⟨_, 2, rfl, Byts.ofBlk hobj (u16_cells x)⟩
            refine wpAnyH_ready (rs := [17]) (by kernel_rfl) (by simp) ?_
            refine AllReadyH.cons (o := _) rfl (fun K hK => ?_) AllReadyH.nil
            refine step_appB rfl _ _ rfl J1 _ _ _ _ _ rfl rfl hs1 hb1 (by have := HFL.out; rw [u16B_len]; omega) ?_
            intro v3 w3 hs3
            have HS3 := Lib.hid (St.swap1 hs3)
            try clear hHeld
            refine hK.out _ _ (HSS.out J1 _ _ hle1 hs3) (fun hHeld => ?_)
            clear hK K
            try simp only [Act.put, List.getElem_toArray, List.getElem_cons_zero, List.getElem_cons_succ, List.setIfInBounds_toArray, List.set_cons_zero, List.set_cons_succ]
            refine wpAnyH_take (i := 18) (oi := _) (v := ?_) rfl (by kernel_rfl) (by kernel_rfl) (by kernel_rfl) (fun _ _ _ h => h) (Or.inl ⟨by rfl, ?_⟩) (by assumption) ?_
            rotate_left
            · (intro w hSw; (try dsimp only at hSw); go_simp; try with_reducible rfl)
            try simp only [Act.put, List.getElem_toArray, List.getElem_cons_zero, List.getElem_cons_succ, List.setIfInBounds_toArray, List.set_cons_zero, List.set_cons_succ]
            refine wpAnyH_done (by kernel_rfl) ?_ _
            have HLE := Lib.hid hle1
            clear hs1 hs3 hb1 hobj hle1 hHeld hjw
            go_wp2
            go_roundw
            case rel =>
              refine ⟨k + 1, j + 1, n2, by have := HJ.out; omega, by go_num, by first | rfl | rw [hv], by omega, by omega, by omega, Lib.hid (And.intro HRW.out ?_)⟩
              rw [HFT.out, HFO.out]
              exact HS3.out.less1 HLE.out
            case measure => simp [intOf]; omega
          · skip
            go_upto_region 14 with fail
            have hjw : IntKind.i64.wrap (j : Int) = (j : Int) := wrap_i64 (by omega) (by omega)
            have HSS := Lib.hid (fun (J : Img) (M' : List Res) (w' : World) (hle : I.le J) (hs : St J M' w') => (show w'.cell? ⟨g, o + j, none⟩ = some (.int .i64 x) from hs.cell (hle.cell (HCX.out))))
            refine wp_region_held_drew (S := fun w' => w'.cell? ⟨g, o + j, none⟩ = some (.int .i64 x)) (by kernel_rfl) (HSS.out I _ _ (.refl I) HS.out.drew) (fun hHeld => ?_)
            refine wpAnyH_take (i := 0) (oi := _) (v := ?_) rfl (by kernel_rfl) (by kernel_rfl) (by kernel_rfl) (fun _ _ _ h => h) (Or.inl ⟨by rfl, ?_⟩) (by assumption) ?_
            rotate_left
            · (intro w hSw; (try dsimp only at hSw); go_simp; try with_reducible rfl)
            try simp only [Act.put, List.getElem_toArray, List.getElem_cons_zero, List.getElem_cons_succ, List.setIfInBounds_toArray, List.set_cons_zero, List.set_cons_succ]
            refine wpAnyH_take (i := 1) (oi := _) (v := ?_) rfl (by kernel_rfl) (by kernel_rfl) (by kernel_rfl) (fun _ _ _ h => h) (Or.inl ⟨by rfl, ?_⟩) (by assumption) ?_
            rotate_left
            · (intro w hSw; (try dsimp only at hSw); go_simp; try with_reducible rfl)
            try simp only [Act.put, List.getElem_toArray, List.getElem_cons_zero, List.getElem_cons_succ, List.setIfInBounds_toArray, List.set_cons_zero, List.set_cons_succ]
            refine wpAnyH_take (i := 2) (oi := _) (v := ?_) rfl (by kernel_rfl) (by kernel_rfl) (by kernel_rfl) (fun _ _ _ h => h) (Or.inl ⟨by rfl, ?_⟩) (by assumption) ?_
            rotate_left
            · (intro w hSw; (try dsimp only at hSw); go_simp; try with_reducible rfl)
            try simp only [Act.put, List.getElem_toArray, List.getElem_cons_zero, List.getElem_cons_succ, List.setIfInBounds_toArray, List.set_cons_zero, List.set_cons_succ]
            refine wpAnyH_take (i := 3) (oi := _) (v := ?_) rfl (by kernel_rfl) (by kernel_rfl) (by kernel_rfl) (fun _ _ _ h => h) (Or.inl ⟨by rfl, ?_⟩) (by assumption) ?_
            rotate_left
            · (intro w hSw; (try dsimp only at hSw); go_simp; try with_reducible rfl)
            try simp only [Act.put, List.getElem_toArray, List.getElem_cons_zero, List.getElem_cons_succ, List.setIfInBounds_toArray, List.set_cons_zero, List.set_cons_succ]
            refine wpAnyH_take (i := 4) (oi := _) (v := ?_) rfl (by kernel_rfl) (by kernel_rfl) (by kernel_rfl) (fun _ _ _ h => h) (Or.inl ⟨by rfl, ?_⟩) (by assumption) ?_
            rotate_left
            · (intro w hSw; (try dsimp only at hSw); go_simp; try with_reducible rfl)
            try simp only [Act.put, List.getElem_toArray, List.getElem_cons_zero, List.getElem_cons_succ, List.setIfInBounds_toArray, List.set_cons_zero, List.set_cons_succ]
            refine wpAnyH_take (i := 5) (oi := _) (v := ?_) rfl (by kernel_rfl) (by kernel_rfl) (by kernel_rfl) (fun _ _ _ h => h) (Or.inl ⟨by rfl, ?_⟩) (by assumption) ?_
            rotate_left
            · (intro w hSw; (try dsimp only at hSw); go_simp; try with_reducible rfl)
            try simp only [Act.put, List.getElem_toArray, List.getElem_cons_zero, List.getElem_cons_succ, List.setIfInBounds_toArray, List.set_cons_zero, List.set_cons_succ]
            refine wpAnyH_take (i := 6) (oi := _) (v := ?_) rfl (by kernel_rfl) (by kernel_rfl) (by kernel_rfl) (fun _ _ _ h => h) (Or.inl ⟨by rfl, ?_⟩) (by assumption) ?_
            rotate_left
            · (intro w hSw; (try dsimp only at hSw); go_simp; try with_reducible rfl)
            try simp only [Act.put, List.getElem_toArray, List.getElem_cons_zero, List.getElem_cons_succ, List.setIfInBounds_toArray, List.set_cons_zero, List.set_cons_succ]
            refine wpAnyH_take (i := 7) (oi := _) (v := ?_) rfl (by kernel_rfl) (by kernel_rfl) (by kernel_rfl) (fun _ _ _ h => h) (Or.inl ⟨by rfl, ?_⟩) (by assumption) ?_
            rotate_left
            · (intro w hSw; (try dsimp only at hSw); go_simp; try with_reducible rfl)
            try simp only [Act.put, List.getElem_toArray, List.getElem_cons_zero, List.getElem_cons_succ, List.setIfInBounds_toArray, List.set_cons_zero, List.set_cons_succ]
            refine wpAnyH_take (i := 8) (oi := _) (v := ?_) rfl (by kernel_rfl) (by kernel_rfl) (by kernel_rfl) (fun _ _ _ h => h) (Or.inl ⟨by rfl, ?_⟩) (by assumption) ?_
            rotate_left
            · (intro w hSw; (try dsimp only at hSw); go_simp; try with_reducible rfl)
            try simp only [Act.put, List.getElem_toArray, List.getElem_cons_zero, List.getElem_cons_succ, List.setIfInBounds_toArray, List.set_cons_zero, List.set_cons_succ]
            refine wpAnyH_take (i := 9) (oi := _) (v := ?_) rfl (by kernel_rfl) (by kernel_rfl) (by kernel_rfl) (fun _ _ _ h => h) (Or.inl ⟨by rfl, ?_⟩) (by assumption) ?_
            rotate_left
            · (intro w hSw; (try dsimp only at hSw); go_simp; try with_reducible rfl)
            try simp only [Act.put, List.getElem_toArray, List.getElem_cons_zero, List.getElem_cons_succ, List.setIfInBounds_toArray, List.set_cons_zero, List.set_cons_succ]
            refine wpAnyH_take (i := 10) (oi := _) (v := ?_) rfl (by kernel_rfl) (by kernel_rfl) (by kernel_rfl) (fun _ _ _ h => h) (Or.inl ⟨by rfl, ?_⟩) (by assumption) ?_
            rotate_left
            · (intro w hSw; (try dsimp only at hSw); go_simp; try with_reducible rfl)
            try simp only [Act.put, List.getElem_toArray, List.getElem_cons_zero, List.getElem_cons_succ, List.setIfInBounds_toArray, List.set_cons_zero, List.set_cons_succ]
            refine wpAnyH_take (i := 11) (oi := _) (v := ?_) rfl (by kernel_rfl) (by kernel_rfl) (by kernel_rfl) (fun _ _ _ h => h) (Or.inl ⟨by rfl, ?_⟩) (by assumption) ?_
            rotate_left
            · (intro w hSw; (try dsimp only at hSw); go_simp; try with_reducible rfl)
            try simp only [Act.put, List.getElem_toArray, List.getElem_cons_zero, List.getElem_cons_succ, List.setIfInBounds_toArray, List.set_cons_zero, List.set_cons_succ]
            refine wpAnyH_take (i := 12) (oi := _) (v := ?_) rfl (by kernel_rfl) (by kernel_rfl) (by kernel_rfl) (fun _ _ _ h => h) (Or.inl ⟨by rfl, ?_⟩) (by assumption) ?_
            rotate_left
            · (intro w hSw; (try dsimp only at hSw); go_simp; try with_reducible rfl)
            try simp only [Act.put, List.getElem_toArray, List.getElem_cons_zero, List.getElem_cons_succ, List.setIfInBounds_toArray, List.set_cons_zero, List.set_cons_succ]
            refine wpAnyH_take (i := 13) (oi := _) (v := ?_) rfl (by kernel_rfl) (by kernel_rfl) (by kernel_rfl) (fun _ _ _ h => h) (Or.inl ⟨by rfl, ?_⟩) (by assumption) ?_
            rotate_left
            · (intro w hSw; (try dsimp only at hSw); go_simp; try with_reducible rfl)
            try simp only [Act.put, List.getElem_toArray, List.getElem_cons_zero, List.getElem_cons_succ, List.setIfInBounds_toArray, List.set_cons_zero, List.set_cons_succ]
            refine wpAnyH_take (i := 14) (oi := _) (v := ?_) rfl (by kernel_rfl) (by kernel_rfl) (by kernel_rfl) (fun _ _ _ h => h) (Or.inl ⟨by rfl, ?_⟩) (by assumption) ?_
            rotate_left
            · (intro w hSw; (try dsimp only at hSw); go_simp; try with_reducible rfl)
            try simp only [Act.put, List.getElem_toArray, List.getElem_cons_zero, List.getElem_cons_succ, List.setIfInBounds_toArray, List.set_cons_zero, List.set_cons_succ]
            refine wpAnyH_take (i := 15) (oi := _) (v := ?_) rfl (by kernel_rfl) (by kernel_rfl) (by kernel_rfl) (fun _ _ _ h => h) (Or.inl ⟨by rfl, ?_⟩) (by assumption) ?_
            rotate_left
            · (intro w hSw; (try dsimp only at hSw); go_simp; try with_reducible rfl)
            try simp only [Act.put, List.getElem_toArray, List.getElem_cons_zero, List.getElem_cons_succ, List.setIfInBounds_toArray, List.set_cons_zero, List.set_cons_succ]
            refine wpAnyH_ready (rs := [16]) (by kernel_rfl) (by simp) ?_
            refine AllReadyH.cons (o := _) rfl (fun K hK => ?_) AllReadyH.nil
            go_simp
            try clear hHeld
            refine hK.out _ _ (HSS.out I _ _ (.refl I) (HS.out.drew.grow _)) (fun hHeld => ?_)
            clear hK K
            try simp only [Act.put, List.getElem_toArray, List.getElem_cons_zero, List.getElem_cons_succ, List.setIfInBounds_toArray, List.set_cons_zero, List.set_cons_succ]
            obtain ⟨J1, hle1, hs1, hobj⟩ := (HS.out.drew.swap1.alloc 5 #[.int .u8 (x / 256 % 256), .int .u8 (x % 256)]).freezeBlk
            have hb1 : RoB (u16B (x % 65536)) (.slice (some ⟨wr.drew.heap.size, 0, none⟩) 2 2) J1 := ⟨_, 2, rfl, Byts.ofBlk hobj (u16_cells x)⟩
            refine wpAnyH_ready (rs := [17]) (by kernel_rfl) (by simp) ?_
            refine AllReadyH.cons (o := _) rfl (fun K hK => ?_) AllReadyH.nil
            refine step_appB rfl _ _ rfl J1 _ _ _ _ _ rfl rfl hs1 hb1 (by have := HFL.out; rw [u16B_len]; omega) ?_
            intro v3 w3 hs3
            have HS3 := Lib.hid (St.swap1 hs3)
            try clear hHeld
            refine hK.out _ _ (HSS.out J1 _ _ hle1 hs3) (fun hHeld => ?_)
            clear hK K
            try simp only [Act.put, List.getElem_toArray, List.getElem_cons_zero, List.getElem_cons_succ, List.setIfInBounds_toArray, List.set_cons_zero, List.set_cons_succ]
            refine wpAnyH_take (i := 18) (oi := _) (v := ?_) rfl (by kernel_rfl) (by kernel_rfl) (by kernel_rfl) (fun _ _ _ h => h) (Or.inl ⟨by rfl, ?_⟩) (by assumption) ?_
            rotate_left
            · (intro w hSw; (try dsimp only at hSw); go_simp; try with_reducible rfl)
            try simp only [Act.put, List.getElem_toArray, List.getElem_cons_zero, List.getElem_cons_succ, List.setIfInBounds_toArray, List.set_cons_zero, List.set_cons_succ]
            refine wpAnyH_done (by kernel_rfl) ?_ _
            have HLE := Lib.hid hle1
            clear hs1 hs3 hb1 hobj hle1 hHeld hjw
            go_wp2
            go_roundw
            case rel =>
              refine ⟨k + 1, j + 1, n2, by have := HJ.out; omega, by go_num, by first | rfl | rw [hv], by omega, by omega, by omega, Lib.hid (And.intro HRW.out ?_)⟩
              rw [HFT.out, HFO.out]
              exact HS3.out.less1 HLE.out
            case measure => simp [intOf]; omega
        have hk7e : k = 7 := by omega
        subst hk7e
        have HW := Lib.hid (show marksT l (t + 1) = marksT l t ++ u16B (n % 65536) by
          have h1 : n = wordR l (7 * t) := by rw [HN.out, ← HIT.out]; unfold wK wordR; simp
          have h2 : n % 65536 = n := by omega
          rw [h2, h1]
          rfl)
        have HML := Lib.hid (marksT_len l t)
        have HTL := Lib.hid (show t ≤ 255 by have := HIT.out; omega)
        have HJ := Lib.hid hj
        clear hj
        obtain ⟨fb, hfb⟩ : ∃ fb, fb = (l.take j).flatMap farO := ⟨_, rfl⟩
        have hsx := HS.out
        rw [← hfb] at hsx
        have HS := Lib.hid hsx
        have HFB := Lib.hid hfb
        clear hsx hfb
        go_wp2_with fail
        go_at_call 39
        refine (twoR I _ _ n HS.out).mono ?_
        clear HS
        rintro e w2 ⟨_, _, _, rfl, _, hs1, rfl, A1, c1, rfl, hc1, rfl⟩
        obtain ⟨J1, hle1, hs2, hb1⟩ := hs1.freezeRow
        have HS2 := Lib.hid hs2
        have HB := Lib.hid (show RoB (u16B (n % 65536)) (.slice A1 (u16B (n % 65536)).length c1) J1 from ⟨A1, c1, rfl, hb1⟩)
        have HLE := Lib.hid hle1
        clear hs1 hs2 hb1 hle1 hc1
        go_wp2_with (at_builtin; refine wpList_appB rfl _ _ rfl J1 _ _ _ _ _ rfl rfl HS2.out HB.out (by have := HML.out; have := HTL.out; rw [u16B_len]; omega) ?_)
        intro v3 w3 hs3
        rw [← HW.out] at hs3
        have HS3 := Lib.hid (St.less1 (show St J1 _ w3 from hs3) HLE.out)
        clear hs3 HS2 HB
        go_wp2
        go_roundw
        case rel =>
          have hj := HJ.out
          subst hj
          have hs4 := HS3.out
          rw [HFB.out] at hs4
          exact ⟨i + 7, t + 1, by have := HIT.out; omega, by go_num, by omega, Lib.hid hs4⟩
        case measure => simp [intOf]; omega
    · have ht : t = (l.length + 6) / 7 := by have := HIT.out; omega
      have hs := HS.out
      have HE := Lib.hid (arrsL_eq l (by omega))
      rw [List.take_of_length_le (by omega)] at hs
      rw [ht] at hs
      obtain ⟨A4, c4, rfl⟩ := own_form (show World.ownsRow _ 0 5 1 u4 _ _ from hs.at 1 rfl)
      obtain ⟨J1, hle1, hs2, hb1⟩ := hs.swap1.freezeRow
      have HS2 := Lib.hid hs2
      have hfl := far_len l l.length
      rw [List.take_length] at hfl
      have HFLN := Lib.hid hfl
      obtain ⟨fl, hfe⟩ : ∃ fl, fl = l.flatMap farO := ⟨_, rfl⟩
      rw [← hfe] at hb1 HE HFLN
      simp only [← hfe]
      have HML := Lib.hid (marksT_len l ((l.length + 6) / 7))
      have HB := Lib.hid (show RoB fl (.slice A4 fl.length c4) J1 from ⟨A4, c4, rfl, hb1⟩)
      have HLE := Lib.hid hle1
      clear hs hs2 hb1 hle1 HS hfe hfl
      go_wp2_with (at_builtin; refine wpList_appB rfl _ _ rfl J1 _ _ _ _ _ rfl rfl HS2.out HB.out (by have := HML.out; have := HFLN.out; omega) ?_)
      intro v3 w3 hs3
      rw [← HE.out] at hs3
      obtain ⟨A5, c5, rfl⟩ := own_form (show World.ownsRow _ 0 5 1 v3 _ _ from St.at hs3 0 rfl)
      obtain ⟨J2, hle2, hs4, hb2⟩ := St.freezeRow (show St J1 _ w3 from hs3)
      have HF := Lib.hid (show Frz I M (arrsL l) (.returned (.slice A5 (arrsL l).length c5)) w3 from ⟨_, J2, rfl, HLE.out.trans hle2, hs4, A5, c5, rfl, hb2⟩)
      clear hs3 hs4 hb2 hle2
      go_wp2
      go_returns
      exact HF.out
end Go.Proofs.Ytddopbbmgpnjjaa
