/- part. -/
import Derived.Test.YtddopbbmgpnjjaaZT18
namespace Go.Proofs.Ytddopbbmgpnjjaa
set_option linter.unusedSimpArgs false
open Go.RowKit
theorem step_appB {ops : Array Oper} {o : Oper} {a : Act} {K : Act -> World -> Prop} {Q : Exit -> Act -> World -> Prop} {E : Prop} {w : World} (hgd : o.guard = none) (s y : Operand)
  (ho : o.op = .call { callee := .builtin .append, args := #[s, y], argTypes := #[24, 24] })
  (I : Zh) (M : List Zt) (v u : Value) (bs cs : List UInt8) (hv : a.eval s = v) (hu : a.eval y = u) (ZX : St I (row 5 1 v bs.length (Z6 bs) :: M) w) (hb : Xy cs u I) (hl : bs.length + cs.length <= 140737488355328)
  (h : ∀ v' w', Apd I M (bs ++ cs) v' w' -> K (a.put o.dst v') w') : if Region.wanted o (yielded ops a.tmps) = true then Oper.wp Try.prog o a w K Q else E := by
 obtain ⟨i0, hi, hz0, hz1, hz2⟩ := info_parts infoU8
 obtain ⟨A, c, rfl, hb⟩ := hb
 refine YU w hgd s y 24 24 ho 0 5 i0 (.int .u8 0) 1 1 Try.underlying24 hi hz0 hz1 hz2 rfl v bs.length (Z6 bs) hv (show World.ownsRow _ 0 5 1 v bs.length (Z6 bs) from ZX.head) _ cs.length (Z6 cs) hu (hb.src ZX Try.underlying24 c) (by unfold maxLen; omega) (by omega) (Nat.zero_le _) ?_
 intro v' w' hown Zr hat
 rw [<- WG, <- List.length_append] at hown
 exact h v' w' (ZX.grown Zr hown hat)
theorem far_take (l : List Int) (j : Nat) (h : j < l.length) : (l.take (j + 1)).flatMap XW = (l.take j).flatMap XW ++ XW l[j] := by
 rw [List.take_succ_eq_append_getElem h, List.flatMap_append, List.flatMap_singleton]
theorem far_out (l : List Int) (j : Nat) (h : l.length <= j) : (l.take (j + 1)).flatMap XW = (l.take j).flatMap XW := by
 rw [List.take_of_length_le (by omega), List.take_of_length_le h]
theorem far_len (l : List Int) (j : Nat) : ((l.take j).flatMap XW).length <= 2 * l.length := by
 have : ∀ r : List Int, (r.flatMap XW).length <= 2 * r.length := by
  intro r
  induction r with
  | nil => simp
  | cons x r ih =>
   rw [List.flatMap_cons, List.length_append, List.length_cons]
   have := farO_le x
   omega
 have h := this (l.take j)
 have : (l.take j).length <= l.length := List.length_take_le' ..
 omega
def wK (l : List Int) (i k : Nat) : Int := 49152 + (cv l i k * 4 ^ (7 - k) : Nat)
theorem wK_ok (l : List Int) (i k : Nat) (hk : k <= 7) : 49152 <= wK l i k /\ wK l i k <= 65535 := by
 have h := cv_lt l i k
 have h2 : cv l i k * 4 ^ (7 - k) < 4 ^ 7 := by
  have : (4 : Nat) ^ 7 = 4 ^ k * 4 ^ (7 - k) := by rw [<- Nat.pow_add]; congr 1; omega
  rw [this]
  exact Nat.mul_lt_mul_of_pos_right h (Nat.pow_pos (by decide))
 unfold wK
 generalize cv l i k * 4 ^ (7 - k) = z at h2
 have : (4 : Nat) ^ 7 = 16384 := rfl
 omega
theorem wK_next (l : List Int) (i k : Nat) (hk : k < 7) : wK l i (k + 1) = wK l i k + (mkN l (i + k) : Int) * ((4 ^ (6 - k) : Nat) : Int) := by
 unfold wK
 have e : 7 - k = (6 - k) + 1 := by omega
 have e2 : 7 - (k + 1) = 6 - k := by omega
 show 49152 + (((4 * cv l i k + mkN l (i + k)) * 4 ^ (7 - (k + 1)) : Nat) : Int) = _
 rw [e2, e, Nat.pow_succ, Nat.add_mul, <- Int.natCast_mul]
 have h3 : 4 * cv l i k * 4 ^ (6 - k) = cv l i k * (4 ^ (6 - k) * 4) := by
  rw [Nat.mul_comm 4, Nat.mul_assoc, Nat.mul_comm 4]
 rw [h3]
 generalize cv l i k * (4 ^ (6 - k) * 4) = p
 generalize mkN l (i + k) * 4 ^ (6 - k) = q
 omega
theorem wK_out (l : List Int) (i k : Nat) (hk : k < 7) (h : mkN l (i + k) = 0) : wK l i (k + 1) = wK l i k := by
 rw [wK_next l i k hk, h]
 simp
theorem pow_same (k : Nat) (_ : k < 7) : ((4 ^ (6 - k) : Nat) : Int) = (2 : Int) ^ (12 - 2 * k) := by
 have e : 12 - 2 * k = 2 * (6 - k) := by omega
 have h : (4 : Nat) ^ (6 - k) = 2 ^ (12 - 2 * k) := by rw [e, Nat.pow_mul]
 rw [h]; simp
theorem pow_le (k : Nat) : 0 <= (2 : Int) ^ (12 - 2 * k) /\ (2 : Int) ^ (12 - 2 * k) <= 4096 := by
 have h : (2 : Nat) ^ (12 - 2 * k) <= 2 ^ 12 := Nat.pow_le_pow_right (by decide) (by omega)
 have h2 : ((2 : Int) ^ (12 - 2 * k)) = ((2 ^ (12 - 2 * k) : Nat) : Int) := by simp
 rw [h2]
 generalize (2 : Nat) ^ (12 - 2 * k) = p at h ⊢
 omega
theorem St.less1 {I J : Zh} {M : List Zt} {w : World} (h : St J M w) (hl : I.le J) : St I M w := h.less hl
set_option maxRecDepth 8000 in
set_option maxHeartbeats 8000000 in
theorem arrivalsR (I : Zh) (M : List Zt) (w : World) (A : Option Addr) (z : Nat) (l : List Int) (hc : Cells I A (flat XC l)) (h0 : 1 <= l.length) (hl : l.length <= 255) (hok : ∀ a ∈ l, Xp a = false) (ZX : St I M w) :
  Calls Try.prog 40 #[.slice A l.length z] w (Frz I M (WB l)) := by
 have HC := VL hc
 have HOK := VL hok
 have HS := VL ((ZX.nil (e := 5) (size := 1)).nil (e := 5) (size := 1))
 clear hc hok ZX
 go_enter Try.func40, Try.ntmps40
 go_upto_region 3 with fail
 go_loopw [3, 4, 5] (fun mv fv iv wr => ∃ (i t : Nat), i = 7 * t /\ iv = .int .i64 i /\ i <= l.length + 6 /\ Hid (St I (row 5 1 mv (Xu l t).length (Z6 (Xu l t)) :: row 5 1 fv ((l.take i).flatMap XW).length (Z6 ((l.take i).flatMap XW)) :: M) wr)) (fun _ _ iv _ => l.length + 7 - (intOf iv).toNat)
 case atStart => exact ⟨0, 0, rfl, rfl, by omega, HS⟩
 case round =>
  obtain ⟨i, t, hit, rfl, hi, hh⟩ := hrel
  clear HS
  have hs := hh.out
  clear hh
  have HIT := VL hit
  clear hit
  have HS := VL hs
  clear hs
  by_cases Z0 : i < l.length
  ·skip
   obtain ⟨g, o, rfl, ZK⟩ := flat_get (s := 1) (fun _ => rfl) HC.out (by omega) (by decide)
   have HCL := VL ZK
   have HCI := VL (show ∀ j (h : j < l.length), I.cell? ⟨g, o + j, none⟩ = some (.int .i64 l[j]) by
    obtain ⟨g2, o2, e, hc2⟩ := HC.out (by rw [XK (s := 1) (fun _ => rfl)]; omega)
    injection e with e
    injection e with e1 e2
    subst e1 e2
    intro j h
    have h3 := hc2 j (by rw [XK (s := 1) (fun _ => rfl)]; omega)
    have h4 := flat_at (s := 1) (f := XC) (fun _ => rfl) l j 0 h (by decide)
    rw [h3, <- List.getElem?_eq_getElem (by rw [XK (s := 1) (fun _ => rfl)]; omega)]
    simpa using h4)
   clear ZK
   go_upto_region 7 with fail
   go_loopw [4, 6, 15] (fun fv nv kv wr' => ∃ (k j : Nat) (n : Int), j = i + k /\ kv = .int .i64 k /\ nv = .int .i64 n /\ k <= 7 /\ 49152 <= n /\ n <= 65535 /\ Hid (n = wK l i k /\ St I (row 5 1 u3 (Xu l t).length (Z6 (Xu l t)) :: row 5 1 fv ((l.take j).flatMap XW).length (Z6 ((l.take j).flatMap XW)) :: M) wr')) (fun _ _ kv _ => 7 - (intOf kv).toNat)
   case atStart => exact ⟨0, i, 49152, rfl, rfl, rfl, by omega, by omega, by omega, VL ⟨by simp [wK, cv], HS.out⟩⟩
   case round =>
    obtain ⟨k, j, n, hj, rfl, rfl, hk, hn1, hn2, hh⟩ := hrel
    obtain ⟨hn, hs⟩ := hh.out
    clear hh HS
    have HN := VL hn
    have HS := VL hs
    have HFL := VL (far_len l j)
    clear hn hs
    by_cases hk7 : k < 7
    ·skip
     have hij : (i : Int) + (k : Int) = (j : Int) := by omega
     have HJ := VL hj
     clear hj
     have hjb : (j : Int) <= 1000 := by omega
     by_cases hjl : j < l.length
     case neg =>
      have hjl' : (l.length : Int) <= (j : Int) := by omega
      have HR := VL (show n = wK l i (k + 1) by rw [wK_out l i k hk7 (mkN_out (by have := HJ.out; omega)), HN.out])
      go_wp2
      go_roundw
      case rel =>
       refine ⟨k + 1, j + 1, n, by have := HJ.out; omega, by go_num, rfl, by omega, by omega, by omega, VL (And.intro HR.out ?_)⟩
       rw [far_out l j (by omega)]
       exact HS.out
      case measure => simp [intOf]; omega
     have hjl' : (j : Int) < (l.length : Int) := by omega
     have y0 : wr.cell? ⟨g, o + j, none⟩ = some (.int .i64 l[j]) := by
      have := HCL.out _ _ HS.out j hjl 0 (by decide)
      simpa using this
     have hbad := HOK.out _ (List.getElem_mem hjl)
     have HMK := VL (mkN_in hjl)
     have HFT := VL (far_take l j hjl)
     obtain ⟨x, hx⟩ : ∃ x, x = l[j] := ⟨_, rfl⟩
     rw [<- hx] at y0 hbad HMK HFT
     have HCX := VL (show I.cell? ⟨g, o + j, none⟩ = some (.int .i64 x) by
      have := HCI.out j hjl
      rw [hx]
      exact this)
     clear hx
     have hxr : x = 65536 \/ (-32768 <= x /\ x <= 32767) := by
      unfold Xp at hbad
      by_cases e : x = 65536
      ·exact .inl e
      right
      have : (x != 65536) = true := by simpa using e
      rw [this, Bool.true_and] at hbad
      exact Xi (by simpa using hbad)
     clear hbad
     by_cases hx0 : x = 65536
     case pos =>
      subst hx0
      have HR := VL (show n = wK l i (k + 1) by rw [wK_out l i k hk7 (by rw [<- HJ.out]; have := HMK.out; unfold YC at this; simp at this; omega), HN.out])
      go_wp2
      go_roundw
      case rel =>
       refine ⟨k + 1, j + 1, n, by have := HJ.out; omega, by go_num, rfl, by omega, by omega, by omega, VL (And.intro HR.out ?_)⟩
       have e : XW 65536 = [] := by unfold XW YC; simp
       rw [HFT.out, e, List.append_nil]
       exact HS.out
      case measure => simp [intOf]; omega
     have hxe : (x == 65536) = false := by simpa using hx0
     have hjn : ¬ l.length <= j := by omega
     obtain ⟨hx1, hx2⟩ : -32768 <= x /\ x <= 32767 := by omega
     clear hxr
     have hwr := wK_ok l i (k + 1) (by omega)
     have hnx := wK_next l i k hk7
     rw [<- HN.out, <- HJ.out, pow_same k hk7] at hnx
     obtain ⟨n2, hn2e⟩ : ∃ n2, n2 = wK l i (k + 1) := ⟨_, rfl⟩
     rw [<- hn2e] at hnx hwr
     obtain ⟨hm1, hm2⟩ := hwr
     by_cases hx255 : 0 <= x /\ x <= 255
     ·skip
      obtain ⟨hx3, hx4⟩ := hx255
      have hmk : (mkN l j : Int) = 1 := by rw [HMK.out]; unfold YC; rw [if_neg hx0, if_pos ⟨hx3, hx4⟩]
      rw [hmk, Int.one_mul] at hnx
      have hv : wrap64 (n + wrap64 (2 ^ (12 - 2 * k))) = n2 := by
       rw [hnx]
       have hp := pow_le k
       rw [hnx] at hm1 hm2
       generalize (2 : Int) ^ (12 - 2 * k) = p at hp hm1 hm2 ⊢
       have e1 : wrap64 (p) = p := VB (by omega) (by omega)
       rw [e1, VB (by omega) (by omega)]
      have hfo : XW x = [byteOf x] := by
       have hm1 : YC x = 1 := by unfold YC; rw [if_neg hx0, if_pos ⟨hx3, hx4⟩]
       have : x % 256 = x := by omega
       unfold XW
       rw [hm1, this]
       rfl
      have HRW := VL hn2e
      have HFO := VL hfo
      clear hnx hmk hfo hn2e
      obtain ⟨J1, hle1, ZY, Z4⟩ := (HS.out.ZQ.alloc 5 #[.int .u8 x]).Zg
      have hb1 : Xy [byteOf x] (.slice (some ⟨wr.heap.size, 0, none⟩) 1 1) J1 := ⟨_, 1, rfl, Zq.Yv Z4 (by simp only [Z6, List.map_cons, List.map_nil]; rw [Yz hx3 (by omega)])⟩
      go_wp2_with (at_builtin; refine Yq rfl _ _ rfl J1 _ _ _ _ _ rfl rfl ZY hb1 (by have := HFL.out; simp only [List.length_cons, List.length_nil]; omega) ?_)
      intro v3 w3 Zf
      have HS3 := VL (St.ZQ Zf)
      have HLE := VL hle1
      clear ZY Zf hb1 Z4 hle1
      go_wp2
      go_roundw
      case rel =>
       refine ⟨k + 1, j + 1, n2, by have := HJ.out; omega, by go_num, by first | rfl | rw [hv], by omega, by omega, by omega, VL (And.intro HRW.out ?_)⟩
       rw [HFT.out, HFO.out]
       exact HS3.out.less1 HLE.out
      case measure => simp [intOf]; omega
     have hmk : (mkN l j : Int) = 2 := by rw [HMK.out]; unfold YC; rw [if_neg hx0, if_neg hx255]
     rw [hmk] at hnx
     have hv : wrap64 (n + wrap64 (2 * 2 ^ (12 - 2 * k))) = n2 := by
      rw [hnx]
      have hp := pow_le k
      rw [hnx] at hm1 hm2
      generalize (2 : Int) ^ (12 - 2 * k) = p at hp hm1 hm2 ⊢
      have e1 : wrap64 (2 * p) = 2 * p := VB (by omega) (by omega)
      rw [e1, VB (by omega) (by omega)]
     have hfo : XW x = Zi (x % 65536) := by
      have hm1 : YC x = 2 := by unfold YC; rw [if_neg hx0, if_neg hx255]
      unfold XW
      rw [hm1]
      rfl
     have HRW := VL hn2e
     have HFO := VL hfo
     clear hnx hmk hfo hn2e
     have h255 : ¬ (0 <= x) \/ (0 <= x /\ 255 < x) := by omega
     rcases h255 with hx3 | ⟨hx3, hx4⟩
     ·skip
      go_upto_region 14 with fail
      have hjw : IntKind.i64.wrap (j : Int) = (j : Int) := wrap_i64 (by omega) (by omega)
      have YV := VL (fun (J : Zh) (M' : List Zt) (w' : World) (Z5 : I.le J) (hs : St J M' w') => (show w'.cell? ⟨g, o + j, none⟩ = some (.int .i64 x) from hs.cell (Z5.cell (HCX.out))))
      refine wp_region_held_drew (S := fun w' => w'.cell? ⟨g, o + j, none⟩ = some (.int .i64 x)) (by kernel_rfl) (YV.out I _ _ (.refl I) HS.out.drew) (fun ZL => ?_)
      refine wh 0 rfl (by kernel_rfl) (fun _ _ _ h => h) rfl ‹_› (by intro w h;go_simp;try with_reducible rfl) ?_
      try go_frame
      refine wh 1 rfl (by kernel_rfl) (fun _ _ _ h => h) rfl ‹_› (by intro w h;go_simp;try with_reducible rfl) ?_
      try go_frame
      refine wh 2 rfl (by kernel_rfl) (fun _ _ _ h => h) rfl ‹_› (by intro w h;go_simp;try with_reducible rfl) ?_
      try go_frame
      refine wh 3 rfl (by kernel_rfl) (fun _ _ _ h => h) rfl ‹_› (by intro w h;go_simp;try with_reducible rfl) ?_
      try go_frame
      refine wh 4 rfl (by kernel_rfl) (fun _ _ _ h => h) rfl ‹_› (by intro w h;go_simp;try with_reducible rfl) ?_
      try go_frame
      refine wh 5 rfl (by kernel_rfl) (fun _ _ _ h => h) rfl ‹_› (by intro w h;go_simp;try with_reducible rfl) ?_
      try go_frame
      refine wh 6 rfl (by kernel_rfl) (fun _ _ _ h => h) rfl ‹_› (by intro w h;go_simp;try with_reducible rfl) ?_
      try go_frame
      refine wh 7 rfl (by kernel_rfl) (fun _ _ _ h => h) rfl ‹_› (by intro w h;go_simp;try with_reducible rfl) ?_
      try go_frame
      refine wh 8 rfl (by kernel_rfl) (fun _ _ _ h => h) rfl ‹_› (by intro w h;go_simp;try with_reducible rfl) ?_
      try go_frame
      refine wh 9 rfl (by kernel_rfl) (fun _ _ _ h => h) rfl ‹_› (by intro w h;go_simp;try with_reducible rfl) ?_
      try go_frame
      refine wh 10 rfl (by kernel_rfl) (fun _ _ _ h => h) rfl ‹_› (by intro w h;go_simp;try with_reducible rfl) ?_
      try go_frame
      refine wh 11 rfl (by kernel_rfl) (fun _ _ _ h => h) rfl ‹_› (by intro w h;go_simp;try with_reducible rfl) ?_
      try go_frame
      refine wh 12 rfl (by kernel_rfl) (fun _ _ _ h => h) rfl ‹_› (by intro w h;go_simp;try with_reducible rfl) ?_
      try go_frame
      refine wh 13 rfl (by kernel_rfl) (fun _ _ _ h => h) rfl ‹_› (by intro w h;go_simp;try with_reducible rfl) ?_
      try go_frame
      refine wh 14 rfl (by kernel_rfl) (fun _ _ _ h => h) rfl ‹_› (by intro w h;go_simp;try with_reducible rfl) ?_
      try go_frame
      refine wh 15 rfl (by kernel_rfl) (fun _ _ _ h => h) rfl ‹_› (by intro w h;go_simp;try with_reducible rfl) ?_
      try go_frame
      refine wpAnyH_ready (rs := [16]) (by kernel_rfl) (by simp) ?_
      refine AllReadyH.cons (o := _) rfl (fun K hK => ?_) AllReadyH.nil
      go_simp
      try clear ZL
      refine hK.out _ _ (YV.out I _ _ (.refl I) (HS.out.drew.grow _)) (fun ZL => ?_)
      clear hK K
      try go_frame
      obtain ⟨J1, hle1, ZY, Z4⟩ := (HS.out.drew.ZQ.alloc 5 #[.int .u8 (x / 256 % 256), .int .u8 (x % 256)]).Zg
      have hb1 : Xy (Zi (x % 65536)) (.slice (some ⟨wr.drew.heap.size, 0, none⟩) 2 2) J1 := ⟨_, 2, rfl, Zq.Yv Z4 (u16_cells x)⟩
      refine wpAnyH_ready (rs := [17]) (by kernel_rfl) (by simp) ?_
      refine AllReadyH.cons (o := _) rfl (fun K hK => ?_) AllReadyH.nil
      refine step_appB rfl _ _ rfl J1 _ _ _ _ _ rfl rfl ZY hb1 (by have := HFL.out; rw [Zz]; omega) ?_
      intro v3 w3 Zf
      have HS3 := VL (St.ZQ Zf)
      try clear ZL
      refine hK.out _ _ (YV.out J1 _ _ hle1 Zf) (fun ZL => ?_)
      clear hK K
      try go_frame
      refine wh 18 rfl (by kernel_rfl) (fun _ _ _ h => h) rfl ‹_› (by intro w h;go_simp;try with_reducible rfl) ?_
      try go_frame
      refine wpAnyH_done (by kernel_rfl) ?_ _
      have HLE := VL hle1
      clear ZY Zf hb1 Z4 hle1 ZL hjw
      go_wp2
      go_roundw
      case rel =>
       refine ⟨k + 1, j + 1, n2, by have := HJ.out; omega, by go_num, by first | rfl | rw [hv], by omega, by omega, by omega, VL (And.intro HRW.out ?_)⟩
       rw [HFT.out, HFO.out]
       exact HS3.out.less1 HLE.out
      case measure => simp [intOf]; omega
     go_upto_region 14 with fail
     have hjw : IntKind.i64.wrap (j : Int) = (j : Int) := wrap_i64 (by omega) (by omega)
     have YV := VL (fun (J : Zh) (M' : List Zt) (w' : World) (Z5 : I.le J) (hs : St J M' w') => (show w'.cell? ⟨g, o + j, none⟩ = some (.int .i64 x) from hs.cell (Z5.cell (HCX.out))))
     refine wp_region_held_drew (S := fun w' => w'.cell? ⟨g, o + j, none⟩ = some (.int .i64 x)) (by kernel_rfl) (YV.out I _ _ (.refl I) HS.out.drew) (fun ZL => ?_)
     refine wh 0 rfl (by kernel_rfl) (fun _ _ _ h => h) rfl ‹_› (by intro w h;go_simp;try with_reducible rfl) ?_
     try go_frame
     refine wh 1 rfl (by kernel_rfl) (fun _ _ _ h => h) rfl ‹_› (by intro w h;go_simp;try with_reducible rfl) ?_
     try go_frame
     refine wh 2 rfl (by kernel_rfl) (fun _ _ _ h => h) rfl ‹_› (by intro w h;go_simp;try with_reducible rfl) ?_
     try go_frame
     refine wh 3 rfl (by kernel_rfl) (fun _ _ _ h => h) rfl ‹_› (by intro w h;go_simp;try with_reducible rfl) ?_
     try go_frame
     refine wh 4 rfl (by kernel_rfl) (fun _ _ _ h => h) rfl ‹_› (by intro w h;go_simp;try with_reducible rfl) ?_
     try go_frame
     refine wh 5 rfl (by kernel_rfl) (fun _ _ _ h => h) rfl ‹_› (by intro w h;go_simp;try with_reducible rfl) ?_
     try go_frame
     refine wh 6 rfl (by kernel_rfl) (fun _ _ _ h => h) rfl ‹_› (by intro w h;go_simp;try with_reducible rfl) ?_
     try go_frame
     refine wh 7 rfl (by kernel_rfl) (fun _ _ _ h => h) rfl ‹_› (by intro w h;go_simp;try with_reducible rfl) ?_
     try go_frame
     refine wh 8 rfl (by kernel_rfl) (fun _ _ _ h => h) rfl ‹_› (by intro w h;go_simp;try with_reducible rfl) ?_
     try go_frame
     refine wh 9 rfl (by kernel_rfl) (fun _ _ _ h => h) rfl ‹_› (by intro w h;go_simp;try with_reducible rfl) ?_
     try go_frame
     refine wh 10 rfl (by kernel_rfl) (fun _ _ _ h => h) rfl ‹_› (by intro w h;go_simp;try with_reducible rfl) ?_
     try go_frame
     refine wh 11 rfl (by kernel_rfl) (fun _ _ _ h => h) rfl ‹_› (by intro w h;go_simp;try with_reducible rfl) ?_
     try go_frame
     refine wh 12 rfl (by kernel_rfl) (fun _ _ _ h => h) rfl ‹_› (by intro w h;go_simp;try with_reducible rfl) ?_
     try go_frame
     refine wh 13 rfl (by kernel_rfl) (fun _ _ _ h => h) rfl ‹_› (by intro w h;go_simp;try with_reducible rfl) ?_
     try go_frame
     refine wh 14 rfl (by kernel_rfl) (fun _ _ _ h => h) rfl ‹_› (by intro w h;go_simp;try with_reducible rfl) ?_
     try go_frame
     refine wh 15 rfl (by kernel_rfl) (fun _ _ _ h => h) rfl ‹_› (by intro w h;go_simp;try with_reducible rfl) ?_
     try go_frame
     refine wpAnyH_ready (rs := [16]) (by kernel_rfl) (by simp) ?_
     refine AllReadyH.cons (o := _) rfl (fun K hK => ?_) AllReadyH.nil
     go_simp
     try clear ZL
     refine hK.out _ _ (YV.out I _ _ (.refl I) (HS.out.drew.grow _)) (fun ZL => ?_)
     clear hK K
     try go_frame
     obtain ⟨J1, hle1, ZY, Z4⟩ := (HS.out.drew.ZQ.alloc 5 #[.int .u8 (x / 256 % 256), .int .u8 (x % 256)]).Zg
     have hb1 : Xy (Zi (x % 65536)) (.slice (some ⟨wr.drew.heap.size, 0, none⟩) 2 2) J1 := ⟨_, 2, rfl, Zq.Yv Z4 (u16_cells x)⟩
     refine wpAnyH_ready (rs := [17]) (by kernel_rfl) (by simp) ?_
     refine AllReadyH.cons (o := _) rfl (fun K hK => ?_) AllReadyH.nil
     refine step_appB rfl _ _ rfl J1 _ _ _ _ _ rfl rfl ZY hb1 (by have := HFL.out; rw [Zz]; omega) ?_
     intro v3 w3 Zf
     have HS3 := VL (St.ZQ Zf)
     try clear ZL
     refine hK.out _ _ (YV.out J1 _ _ hle1 Zf) (fun ZL => ?_)
     clear hK K
     try go_frame
     refine wh 18 rfl (by kernel_rfl) (fun _ _ _ h => h) rfl ‹_› (by intro w h;go_simp;try with_reducible rfl) ?_
     try go_frame
     refine wpAnyH_done (by kernel_rfl) ?_ _
     have HLE := VL hle1
     clear ZY Zf hb1 Z4 hle1 ZL hjw
     go_wp2
     go_roundw
     case rel =>
      refine ⟨k + 1, j + 1, n2, by have := HJ.out; omega, by go_num, by first | rfl | rw [hv], by omega, by omega, by omega, VL (And.intro HRW.out ?_)⟩
      rw [HFT.out, HFO.out]
      exact HS3.out.less1 HLE.out
     case measure => simp [intOf]; omega
    have hk7e : k = 7 := by omega
    subst hk7e
    have HW := VL (show Xu l (t + 1) = Xu l t ++ Zi (n % 65536) by
     have h1 : n = WP l (7 * t) := by rw [HN.out, <- HIT.out]; unfold wK WP; simp
     have h2 : n % 65536 = n := by omega
     rw [h2, h1]
     rfl)
    have HML := VL (marksT_len l t)
    have HTL := VL (show t <= 255 by have := HIT.out; omega)
    have HJ := VL hj
    clear hj
    obtain ⟨fb, hfb⟩ : ∃ fb, fb = (l.take j).flatMap XW := ⟨_, rfl⟩
    have hsx := HS.out
    rw [<- hfb] at hsx
    have HS := VL hsx
    have HFB := VL hfb
    clear hsx hfb
    go_wp2_with fail
    go_at_call 39
    refine (twoR I _ _ n HS.out).mono ?_
    clear HS
    rintro e w2 ⟨_, _, _, rfl, _, ZY, rfl, A1, c1, rfl, Zc, rfl⟩
    obtain ⟨J1, hle1, YN, hb1⟩ := ZY.ZR
    have HS2 := VL YN
    have HB := VL (show Xy (Zi (n % 65536)) (.slice A1 (Zi (n % 65536)).length c1) J1 from ⟨A1, c1, rfl, hb1⟩)
    have HLE := VL hle1
    clear ZY YN hb1 hle1 Zc
    go_wp2_with (at_builtin; refine Yq rfl _ _ rfl J1 _ _ _ _ _ rfl rfl HS2.out HB.out (by have := HML.out; have := HTL.out; rw [Zz]; omega) ?_)
    intro v3 w3 Zf
    rw [<- HW.out] at Zf
    have HS3 := VL (St.less1 (show St J1 _ w3 from Zf) HLE.out)
    clear Zf HS2 HB
    go_wp2
    go_roundw
    case rel =>
     have hj := HJ.out
     subst hj
     have Zv := HS3.out
     rw [HFB.out] at Zv
     exact ⟨i + 7, t + 1, by have := HIT.out; omega, by go_num, by omega, VL Zv⟩
    case measure => simp [intOf]; omega
  have ht : t = (l.length + 6) / 7 := by have := HIT.out; omega
  have hs := HS.out
  have HE := VL (arrsL_eq l (by omega))
  rw [List.take_of_length_le (by omega)] at hs
  rw [ht] at hs
  obtain ⟨A4, c4, rfl⟩ := ZW (show World.ownsRow _ 0 5 1 u4 _ _ from hs.at 1 rfl)
  obtain ⟨J1, hle1, YN, hb1⟩ := hs.ZQ.ZR
  have HS2 := VL YN
  have hfl := far_len l l.length
  rw [List.take_length] at hfl
  have HFLN := VL hfl
  obtain ⟨fl, hfe⟩ : ∃ fl, fl = l.flatMap XW := ⟨_, rfl⟩
  rw [<- hfe] at hb1 HE HFLN
  simp only [<- hfe]
  have HML := VL (marksT_len l ((l.length + 6) / 7))
  have HB := VL (show Xy fl (.slice A4 fl.length c4) J1 from ⟨A4, c4, rfl, hb1⟩)
  have HLE := VL hle1
  clear hs YN hb1 hle1 HS hfe hfl
  go_wp2_with (at_builtin; refine Yq rfl _ _ rfl J1 _ _ _ _ _ rfl rfl HS2.out HB.out (by have := HML.out; have := HFLN.out; omega) ?_)
  intro v3 w3 Zf
  rw [<- HE.out] at Zf
  obtain ⟨A5, c5, rfl⟩ := ZW (show World.ownsRow _ 0 5 1 v3 _ _ from St.at Zf 0 rfl)
  obtain ⟨J2, Zd, Zv, hb2⟩ := St.ZR (show St J1 _ w3 from Zf)
  have HF := VL (show Frz I M (WB l) (.returned (.slice A5 (WB l).length c5)) w3 from ⟨_, J2, rfl, HLE.out.trans Zd, Zv, A5, c5, rfl, hb2⟩)
  clear Zf Zv hb2 Zd
  go_wp2
  go_returns
  exact HF.out
def Bui (I : Zh) (M : List Zt) (p : Pk) : Ending -> World -> Prop := YR I (fun v _ M' => ∃ A c, v = .slice A (ZV p).length c /\ M' = row 5 1 v (ZV p).length (Z6 (ZV p)) :: M)
def sliceLen : Value -> Nat
 | .slice _ n _ => n
 | _ => 0
theorem frz_cast {I : Zh} {M : List Zt} {l l' : List UInt8} {f : Nat} {args : Array Value} {w : World} (h : l' = l) (hc : Calls Try.prog f args w (Frz I M l)) : Calls Try.prog f args w (Frz I M l') := h ▸ hc
theorem WS {a b : Int} (ha : 0 <= a /\ a < 256) (hb : 0 <= b /\ b < 256) : (#[Value.int .u8 a, .int .u8 b] : Array Value).toList = Z6 [byteOf a, byteOf b] := by
 simp only [Z6, List.map_cons, List.map_nil]
 rw [Yz ha.1 ha.2, Yz hb.1 hb.2]
theorem WM (l : List UInt8) : l ++ List.replicate ((4 - l.length % 4) % 4) 0 = YH l := rfl
theorem low1 {ZA ZC ZN ZP ZI ZJ base ref count : Int} {name : ByteArray} {ZE : List Rp} {ZG ZH ZF : List Int} {ZB : List Wn} (hg : Good (⟨1, ZA, ZC, ZN, ZP, ZI, ZJ, ZE, name, ZG, ZH, base, ref, count, ZF, ZB⟩ : Pk)) : XV (⟨1, ZA, ZC, ZN, ZP, ZI, ZJ, ZE, name, ZG, ZH, base, ref, count, ZF, ZB⟩ : Pk) = (ZE.length : Int) := by
 have h2 : ZG = [] := by have := congrArg Pk.ZG hg.2; simpa [YO] using this
 subst h2
 simp [XV, Z8]
theorem low2 {ZA ZC ZN ZP ZI ZJ base ref count : Int} {name : ByteArray} {ZE : List Rp} {ZG ZH ZF : List Int} {ZB : List Wn} (hg : Good (⟨2, ZA, ZC, ZN, ZP, ZI, ZJ, ZE, name, ZG, ZH, base, ref, count, ZF, ZB⟩ : Pk)) : XV (⟨2, ZA, ZC, ZN, ZP, ZI, ZJ, ZE, name, ZG, ZH, base, ref, count, ZF, ZB⟩ : Pk) = (ZE.length : Int) := by
 have h2 : ZG = [] := by have := congrArg Pk.ZG hg.2; simpa [YO] using this
 subst h2
 simp [XV, Z8]
theorem low4 {ZA ZC ZN ZP ZI ZJ base ref count : Int} {name : ByteArray} {ZE : List Rp} {ZG ZH ZF : List Int} {ZB : List Wn} (hg : Good (⟨4, ZA, ZC, ZN, ZP, ZI, ZJ, ZE, name, ZG, ZH, base, ref, count, ZF, ZB⟩ : Pk)) : XV (⟨4, ZA, ZC, ZN, ZP, ZI, ZJ, ZE, name, ZG, ZH, base, ref, count, ZF, ZB⟩ : Pk) = (ZG.length : Int) := by
 have h2 : ZE = [] := by have := congrArg Pk.ZE hg.2; simpa [YO] using this
 subst h2
 simp [XV, Z8]
theorem wrap_u8 {x : Int} (h0 : 0 <= x) (h1 : x <= 255) : IntKind.u8.wrap x = x := by
 simp only [IntKind.wrap, IntKind.signed, IntKind.bits]
 simp
 omega
theorem body3 {ZA ZC ZN ZP ZI ZJ base ref count : Int} {name : ByteArray} {ZE : List Rp} {ZG ZH ZF : List Int} {ZB : List Wn} (hg : Good (⟨3, ZA, ZC, ZN, ZP, ZI, ZJ, ZE, name, ZG, ZH, base, ref, count, ZF, ZB⟩ : Pk)) :
  ([ZM ZA, [byteOf 1, byteOf name.size], ls name, [byteOf 0]] : List (List UInt8)).flatten = Zu (⟨3, ZA, ZC, ZN, ZP, ZI, ZJ, ZE, name, ZG, ZH, base, ref, count, ZF, ZB⟩ : Pk) := by
 have h1 : ZE = [] := by have := congrArg Pk.ZE hg.2; simpa [YO] using this
 have h2 : ZG = [] := by have := congrArg Pk.ZG hg.2; simpa [YO] using this
 have h5 : ZB = [] := by have := congrArg Pk.ZB hg.2; simpa [YO] using this
 subst h1 h2 h5
 simp [Zu, Xf, XG, ls]
theorem lit_four {x : Int} (h0 : 0 <= x) (h1 : x < 256) : (#[Value.int .u8 x, .int .u8 0, .int .u8 0, .int .u8 0] : Array Value).toList = Z6 [byteOf x, byteOf 0, byteOf 0, byteOf 0] := by
 simp only [Z6, List.map_cons, List.map_nil]
 rw [Yz h0 h1]
 rfl
theorem wn_four {x : Wn} (_ : 0 <= x.seq) (_ : x.seq <= 255) : ZM x.src ++ [byteOf x.seq, byteOf 0, byteOf 0, byteOf 0] = XU x := by
 unfold XU
 congr 1
 unfold ZM
 have e1 : x.seq * 16777216 / 16777216 = x.seq := by omega
 have e2 : x.seq * 16777216 / 65536 % 256 = 0 := by omega
 have e3 : x.seq * 16777216 / 256 % 256 = 0 := by omega
 have e4 : x.seq * 16777216 % 256 = 0 := by omega
 rw [e1, e2, e3, e4]
theorem body4 {ZA ZC ZN ZP ZI ZJ base ref count : Int} {name : ByteArray} {ZE : List Rp} {ZG ZH ZF : List Int} {ZB : List Wn} (hg : Good (⟨4, ZA, ZC, ZN, ZP, ZI, ZJ, ZE, name, ZG, ZH, base, ref, count, ZF, ZB⟩ : Pk)) :
  ZG.flatMap ZM = Zu (⟨4, ZA, ZC, ZN, ZP, ZI, ZJ, ZE, name, ZG, ZH, base, ref, count, ZF, ZB⟩ : Pk) := by
 have h1 : ZE = [] := by have := congrArg Pk.ZE hg.2; simpa [YO] using this
 have h5 : ZB = [] := by have := congrArg Pk.ZB hg.2; simpa [YO] using this
 subst h1 h5
 simp [Zu, Xf, XG]
theorem body8 {ZA ZC ZN ZP ZI ZJ base ref count : Int} {name : ByteArray} {ZE : List Rp} {ZG ZH ZF : List Int} {ZB : List Wn} (hg : Good (⟨8, ZA, ZC, ZN, ZP, ZI, ZJ, ZE, name, ZG, ZH, base, ref, count, ZF, ZB⟩ : Pk)) :
  ([ZM ZA, ZM ZC] : List (List UInt8)).flatten ++ ZB.flatMap XU = Zu (⟨8, ZA, ZC, ZN, ZP, ZI, ZJ, ZE, name, ZG, ZH, base, ref, count, ZF, ZB⟩ : Pk) := by
 have h1 : ZE = [] := by have := congrArg Pk.ZE hg.2; simpa [YO] using this
 have h2 : ZG = [] := by have := congrArg Pk.ZG hg.2; simpa [YO] using this
 subst h1 h2
 simp [Zu, Xf, XG]
theorem body2 {ZA ZC ZN ZP ZI ZJ base ref count : Int} {name : ByteArray} {ZE : List Rp} {ZG ZH ZF : List Int} {ZB : List Wn} {rb : List UInt8} (hg : Good (⟨2, ZA, ZC, ZN, ZP, ZI, ZJ, ZE, name, ZG, ZH, base, ref, count, ZF, ZB⟩ : Pk)) (hr : rb = ZE.flatMap YK) :
  ([ZM ZA, rb] : List (List UInt8)).flatten = Zu (⟨2, ZA, ZC, ZN, ZP, ZI, ZJ, ZE, name, ZG, ZH, base, ref, count, ZF, ZB⟩ : Pk) := by
 have h2 : ZG = [] := by have := congrArg Pk.ZG hg.2; simpa [YO] using this
 have h5 : ZB = [] := by have := congrArg Pk.ZB hg.2; simpa [YO] using this
 subst h2 h5 hr
 simp [Zu, Xf, XG]
theorem body1 {ZA ZC ZN ZP ZI ZJ base ref count : Int} {name : ByteArray} {ZE : List Rp} {ZG ZH ZF : List Int} {ZB : List Wn} {rb : List UInt8} (hg : Good (⟨1, ZA, ZC, ZN, ZP, ZI, ZJ, ZE, name, ZG, ZH, base, ref, count, ZF, ZB⟩ : Pk)) (hr : rb = ZE.flatMap YK) :
  ([ZM ZA, ZM (ZN / 4294967296), ZM (ZN % 4294967296), ZM ZP, ZM ZI, ZM ZJ, rb] : List (List UInt8)).flatten = Zu (⟨1, ZA, ZC, ZN, ZP, ZI, ZJ, ZE, name, ZG, ZH, base, ref, count, ZF, ZB⟩ : Pk) := by
 have h2 : ZG = [] := by have := congrArg Pk.ZG hg.2; simpa [YO] using this
 have h5 : ZB = [] := by have := congrArg Pk.ZB hg.2; simpa [YO] using this
 subst h2 h5 hr
 simp [Zu, Xf, XG]
theorem body5 {ZA ZC ZN ZP ZI ZJ base ref count : Int} {name : ByteArray} {ZE : List Rp} {ZG ZH ZF : List Int} {ZB : List Wn} (hg : Good (⟨5, ZA, ZC, ZN, ZP, ZI, ZJ, ZE, name, ZG, ZH, base, ref, count, ZF, ZB⟩ : Pk)) :
  ([ZM ZA, ZM ZC, YG ZH] : List (List UInt8)).flatten = Zu (⟨5, ZA, ZC, ZN, ZP, ZI, ZJ, ZE, name, ZG, ZH, base, ref, count, ZF, ZB⟩ : Pk) := by
 have h1 : ZE = [] := by have := congrArg Pk.ZE hg.2; simpa [YO] using this
 have h2 : ZG = [] := by have := congrArg Pk.ZG hg.2; simpa [YO] using this
 have h5 : ZB = [] := by have := congrArg Pk.ZB hg.2; simpa [YO] using this
 subst h1 h2 h5
 simp [Zu, Xf, XG]
theorem body6 {ZA ZC ZN ZP ZI ZJ base ref count : Int} {name : ByteArray} {ZE : List Rp} {ZG ZH ZF : List Int} {ZB : List Wn} (hg : Good (⟨6, ZA, ZC, ZN, ZP, ZI, ZJ, ZE, name, ZG, ZH, base, ref, count, ZF, ZB⟩ : Pk)) (hok : Y6 (⟨6, ZA, ZC, ZN, ZP, ZI, ZJ, ZE, name, ZG, ZH, base, ref, count, ZF, ZB⟩ : Pk)) (hl : ZF.length <= 255) :
  ([ZM ZA, ZM ZC, Zi (base % 65536), Zi ((ZF.length : Int) % 65536), ZM (ref * 256 + count), WB ZF] : List (List UInt8)).flatten = Zu (⟨6, ZA, ZC, ZN, ZP, ZI, ZJ, ZE, name, ZG, ZH, base, ref, count, ZF, ZB⟩ : Pk) := by
 have h1 : ZE = [] := by have := congrArg Pk.ZE hg.2; simpa [YO] using this
 have h2 : ZG = [] := by have := congrArg Pk.ZG hg.2; simpa [YO] using this
 have h5 : ZB = [] := by have := congrArg Pk.ZB hg.2; simpa [YO] using this
 have hb := hok.base
 simp only [] at hb
 have e1 : base % 65536 = base := by omega
 have e2 : (ZF.length : Int) % 65536 = ZF.length := by omega
 subst h1 h2 h5
 rw [e1, e2]
 simp [Zu, Xf, XG]
theorem body7 {ZA ZC ZN ZP ZI ZJ base ref count : Int} {name : ByteArray} {ZE : List Rp} {ZG ZH ZF : List Int} {ZB : List Wn} (hg : Good (⟨7, ZA, ZC, ZN, ZP, ZI, ZJ, ZE, name, ZG, ZH, base, ref, count, ZF, ZB⟩ : Pk)) :
  ([ZM ZA, ZM ZC] : List (List UInt8)).flatten = Zu (⟨7, ZA, ZC, ZN, ZP, ZI, ZJ, ZE, name, ZG, ZH, base, ref, count, ZF, ZB⟩ : Pk) := by
 have h1 : ZE = [] := by have := congrArg Pk.ZE hg.2; simpa [YO] using this
 have h2 : ZG = [] := by have := congrArg Pk.ZG hg.2; simpa [YO] using this
 have h5 : ZB = [] := by have := congrArg Pk.ZB hg.2; simpa [YO] using this
 subst h1 h2 h5
 simp [Zu, Xf, XG]
end Go.Proofs.Ytddopbbmgpnjjaa
