/- part. -/
import Derived.Test.YtddopbbmgpnjjaaZT18
namespace Go.Proofs.Ytddopbbmgpnjjaa
set_option linter.unusedSimpArgs false
open Go.RowKit
theorem sort_le {base : Int} {l : List Int} (h : SortK base l) {i j : Nat} (hi : i < l.length) (hj : j < l.length) (hij : i <= j) : Xm base l[i] <= Xm base l[j] := by
 rcases Nat.lt_or_ge i j with h1 | h1
 ·exact h i j h1 hj
 have : i = j := by omega
 subst this
 exact Int.le_refl _
set_option maxRecDepth 8000 in
set_option maxHeartbeats 8000000 in
theorem symC (I : Zh) (M : List Zt) (g c B n : Nat) (base : Int) (hn1 : n <= 1000000) : ∀ (N : Nat) (l : List Int) (w : World) (a m b : Nat), b - a <= N -> l.length = n -> a < m -> m < b -> b <= n -> Rng l -> Y8 I M g c B base l w ->
  Calls Try.prog 74 #[.slice (some ⟨g, 0, none⟩) n c, .int .i64 a, .int .i64 m, .int .i64 b, .func (.func 65) #[] #[.pointer (some ⟨B, 0, none⟩)]] w (Does I M g c B base l) := by
 intro N
 induction N with
 | zero => intro l w a m b h0 _ h1 h2; omega
 | succ N ih =>
 intro l w a m b hN hn ham hmb hb hr ZX
 have IH := VL ih
 have HS := VL ZX
 have HR := VL hr
 have HN := VL hn
 have hcap := ZX.cap
 rw [hn] at hcap
 clear ZX hr hn ih
 have ha1 : (a : Int) < (n : Int) := by omega
 have hm1 : (m : Int) < (n : Int) := by omega
 have haw : IntKind.i64.wrap (a : Int) = (a : Int) := wrap_i64 (by omega) (by omega)
 have hmw : IntKind.i64.wrap (m : Int) = (m : Int) := wrap_i64 (by omega) (by omega)
 by_cases hA : m - a = 1
 ·have hA1 : ((m : Int) - (a : Int) == 1) = true := by rw [beq_iff_eq]; omega
  have hA2 : (m : Int) - (a : Int) = 1 := by omega
  go_enter Try.func74, Try.ntmps74
  go_upto_region 3 with fail
  go_loopw [10, 11] (fun iv jv wr => ∃ i j : Nat, iv = .int .i64 i /\ jv = .int .i64 j /\ m <= i /\ i <= j /\ j <= b /\ Hid ((SortK base l -> i = m) /\ Y8 I M g c B base l wr)) (fun iv jv _ => (intOf jv).toNat - (intOf iv).toNat)
  case atStart => exact ⟨m, b, rfl, rfl, by omega, by omega, by omega, VL ⟨fun _ => rfl, HS.out⟩⟩
  case round =>
   obtain ⟨i, j, rfl, rfl, hi, hij, hj, hh⟩ := hrel
   clear HS
   obtain ⟨hso, hs⟩ := hh.out
   clear hh
   have HSO := VL hso
   have HS := VL hs
   clear hso hs
   by_cases Z0 : i < j
   ·skip
    obtain ⟨h, hh⟩ : ∃ h, h = (i + j) / 2 := ⟨_, rfl⟩
    have hh1 : (((i : Nat) : Int) + ((j : Nat) : Int)) / 2 = (h : Int) := by omega
    have hh2 : i <= h /\ h < j := by omega
    obtain ⟨hh3, hh4⟩ := hh2
    have hhn : (h : Int) < (n : Int) := by omega
    have hhw : IntKind.i64.wrap (h : Int) = (h : Int) := wrap_i64 (by omega) (by omega)
    clear hh
    have hx9 : h < l.length := by rw [HN.out]; omega
    have hy9 : a < l.length := by rw [HN.out]; omega
    go_upto_region 5 with fail
    obtain ⟨c1, c2, c3⟩ := (Y8.drew HS.out).cell h hx9
    obtain ⟨c4, c5, c6⟩ := (Y8.drew HS.out).cell a hy9
    have hbs := (Y8.drew HS.out).base
    obtain ⟨vx, hvx⟩ : ∃ v, v = l[h] := ⟨_, rfl⟩
    obtain ⟨vy, hvy⟩ : ∃ v, v = l[a] := ⟨_, rfl⟩
    obtain ⟨d, hd⟩ : ∃ d, d = Xm base vx - Xm base vy := ⟨_, rfl⟩
    have HD := VL hd
    have HV := VL (show d = Xm base l[h] - Xm base l[a] by rw [hd, hvx, hvy])
    rw [<- hvx] at c1
    rw [<- hvy] at c4
    clear hvx hvy hd
    refine wp_region_held_drew (S := (fun w' => w'.cell? ⟨g, h, none⟩ = some (.int .u16 vx) /\ w'.cell? ⟨g, a, none⟩ = some (.int .u16 vy))) (by kernel_rfl) (by (try dsimp only); exact ⟨c1, c4⟩) (fun ZL => ?_)
    refine wh 0 rfl (by kernel_rfl) (fun _ _ _ h => h) rfl ‹_› (by intro w h;go_simp;try with_reducible rfl) ?_
    try go_frame
    refine wh 1 rfl (by kernel_rfl) (fun _ _ _ h => h) rfl ‹_› (by intro w h;go_simp;try with_reducible rfl) ?_
    try go_frame
    refine wh 2 rfl (by kernel_rfl) (fun _ _ _ h => h) rfl ‹_› (by intro w h;go_simp;try with_reducible rfl) ?_
    try go_frame
    refine wh 3 rfl (by kernel_rfl) (fun _ _ _ h => h) rfl ‹_› (by intro w h;go_simp;try with_reducible rfl) ?_
    try go_frame
    refine wh 4 rfl (by kernel_rfl) (fun _ _ _ h => h) rfl ‹_› (by intro w h;go_simp;try with_reducible rfl) ?_
    try go_frame
    refine wh 5 rfl (by kernel_rfl) (fun _ _ _ h => h) rfl ‹_› (by intro w h;go_simp;try with_reducible rfl) ?_
    try go_frame
    refine wh 6 rfl (by kernel_rfl) (fun _ _ _ h => h) rfl ‹_› (by intro w h;go_simp;try with_reducible rfl) ?_
    try go_frame
    refine wh 7 rfl (by kernel_rfl) (fun _ _ _ h => h) rfl ‹_› (by intro w h;go_simp;try with_reducible rfl) ?_
    try go_frame
    refine wh 8 rfl (by kernel_rfl) (fun _ _ _ h => h) rfl ‹_› (by intro w h;go_simp;try with_reducible rfl) ?_
    try go_frame
    refine wpAnyH_ready (rs := [9]) (by kernel_rfl) (by simp) ?_
    refine AllReadyH.cons (o := _) rfl (fun K hK => ?_) AllReadyH.nil
    go_simp
    go_at_call 65; refine (cmpD _ B base vx vy d HD.out hbs).mono ?_; rintro e w2 ⟨rfl, hw⟩; subst hw
    try clear ZL
    refine hK.out _ _ (by (try dsimp only); exact ⟨c1, c4⟩) (fun ZL => ?_)
    clear hK K
    try go_frame
    refine wh 10 rfl (by kernel_rfl) (fun _ _ _ h => h) rfl ‹_› (by intro w h;go_simp;try with_reducible rfl) ?_
    try go_frame
    refine wpAnyH_done (by kernel_rfl) ?_ _
    have HS1 := VL (Y8.drew HS.out)
    generalize World.drew wr = W1 at HS1 hbs c1 c2 c3 c4 c5 c6 ZL ⊢
    clear hbs c1 c2 c3 c4 c5 c6 ZL HD
    by_cases hdp : 0 <= d
    ·have hdb : (d < 0) = False := eq_false (by omega)
     have hd1 : decide (d < 0) = false := decide_eq_false (by omega)
     have hd2 : (!decide (d < 0)) = true := by rw [hd1]; rfl
     have hd3 : decide (0 <= d) = true := decide_eq_true hdp
     go_wp2
     go_roundw
     case rel => exact ⟨i, h, rfl, rfl, hi, by omega, by omega, VL ⟨HSO.out, HS1.out⟩⟩
     case measure => simp [intOf]; omega
    have hdn : d < 0 := by omega
    have hdq : (0 <= d) = False := eq_false (by omega)
    have hd1 : decide (d < 0) = true := decide_eq_true hdn
    have hd2 : (!decide (d < 0)) = false := by rw [hd1]; rfl
    have hd3 : decide (0 <= d) = false := decide_eq_false (by omega)
    go_wp2
    go_roundw
    case rel =>
     refine ⟨h + 1, j, by go_num, rfl, by omega, by omega, hj, VL ⟨fun hs => ?_, HS1.out⟩⟩
     have h1 := sort_le hs hy9 hx9 (by omega)
     have h2 := HV.out
     omega
    case measure => simp [intOf]; omega
   have hije : i = j := by omega
   subst hije
   go_upto_region 9 with fail
   go_loopw [13] (fun kv wr => ∃ k : Nat, kv = .int .i64 k /\ a <= k /\ k <= i /\ Hid (∃ l1, Kept base l l1 /\ Y8 I M g c B base l1 wr)) (fun kv _ => i - (intOf kv).toNat)
   case atStart => exact ⟨a, rfl, by omega, by omega, VL ⟨l, .refl HR.out, HS.out⟩⟩
   case round =>
    obtain ⟨k, rfl, hk1, hk2, hh⟩ := hrel
    clear HS
    obtain ⟨l1, hkp, hs⟩ := hh.out
    clear hh
    have HKP := VL hkp
    have HS := VL hs
    by_cases hki : k + 1 < i
    ·skip
     have hki2 : (k : Int) < (i : Int) - 1 := by omega
     obtain ⟨k2, hk3⟩ : ∃ k2, k2 = k + 1 := ⟨_, rfl⟩
     have hk4 : (k : Int) + 1 = (k2 : Int) := by omega
     have hx9 : k < l1.length := by rw [hkp.len, HN.out]; omega
     have hy9 : k2 < l1.length := by rw [hkp.len, HN.out]; omega
     have hkn : (k : Int) < (n : Int) := by omega
     have hkn2 : (k2 : Int) < (n : Int) := by omega
     have hkw : IntKind.i64.wrap (k : Int) = (k : Int) := wrap_i64 (by omega) (by omega)
     have hkw2 : IntKind.i64.wrap (k2 : Int) = (k2 : Int) := wrap_i64 (by omega) (by omega)
     have HK3 := VL hk3
     clear hkp hs hk3
     go_upto_region 11 with fail
     have YM := HS.out
     obtain ⟨c1, c2, c3⟩ := YM.cell k hx9
     obtain ⟨c4, c5, c6⟩ := YM.cell k2 hy9
     obtain ⟨vx, hvx⟩ : ∃ v, v = l1[k] := ⟨_, rfl⟩
     obtain ⟨vy, hvy⟩ : ∃ v, v = l1[k2] := ⟨_, rfl⟩
     have ZY := YM.set k hx9 l1[k2]
     have YN := ZY.set k2 (by rw [List.length_set]; exact hy9) l1[k]
     have HS3 := VL (show Y8 I M g c B base (swapL l1 k k2 hx9 hy9) _ from Y8.drew YN)
     rw [<- hvx, <- hvy] at HS3
     rw [<- hvx] at c1
     rw [<- hvy] at c4 ZY
     obtain ⟨d1, d2, d3⟩ := ZY.cell k2 (by rw [List.length_set]; exact hy9)
     clear YM ZY YN hvx hvy
      
     go_region
     go_wp2
     go_roundw
     case rel =>
      refine ⟨k2, by have := HK3.out; go_num, by have := HK3.out; omega, by have := HK3.out; omega, VL ⟨swapL l1 k k2 hx9 hy9, Kept.un (swapL_len.trans HKP.out.len) (swapL_rng HKP.out.rng) (fun Yu => ?_), HS3.out⟩⟩
      have h1 := HSO.out Yu
      omega
     case measure => have := HK3.out; simp [intOf]; omega
    have hki2 : ¬ ((k : Int) < (i : Int) - 1) := by omega
    have HF := VL (show ∃ l', Kept base l l' /\ Y8 I M g c B base l' wr from ⟨l1, hkp, hs⟩)
    clear hkp hs HS HKP
    go_wp2
    go_returns
    exact ⟨rfl, HF.out⟩
 by_cases hBc : b - m = 1
 ·have hA1 : ((m : Int) - (a : Int) == 1) = false := by rw [beq_eq_false_iff_ne]; omega
  have hB1 : ((b : Int) - (m : Int) == 1) = true := by rw [beq_iff_eq]; omega
  go_enter Try.func74, Try.ntmps74
  go_upto_region 15 with fail
  go_loopw [14, 15] (fun iv jv wr => ∃ i j : Nat, iv = .int .i64 i /\ jv = .int .i64 j /\ a <= i /\ i <= j /\ j <= m /\ Hid ((SortK base l -> j = m) /\ Y8 I M g c B base l wr)) (fun iv jv _ => (intOf jv).toNat - (intOf iv).toNat)
  case atStart => exact ⟨a, m, rfl, rfl, by omega, by omega, by omega, VL ⟨fun _ => rfl, HS.out⟩⟩
  case round =>
   obtain ⟨i, j, rfl, rfl, hi, hij, hj, hh⟩ := hrel
   clear HS
   obtain ⟨hso, hs⟩ := hh.out
   clear hh
   have HSO := VL hso
   have HS := VL hs
   clear hso hs
   by_cases Z0 : i < j
   ·skip
    obtain ⟨h, hh⟩ : ∃ h, h = (i + j) / 2 := ⟨_, rfl⟩
    have hh1 : (((i : Nat) : Int) + ((j : Nat) : Int)) / 2 = (h : Int) := by omega
    have hh2 : i <= h /\ h < j := by omega
    obtain ⟨hh3, hh4⟩ := hh2
    have hhn : (h : Int) < (n : Int) := by omega
    have hhw : IntKind.i64.wrap (h : Int) = (h : Int) := wrap_i64 (by omega) (by omega)
    clear hh
    have hx9 : m < l.length := by rw [HN.out]; omega
    have hy9 : h < l.length := by rw [HN.out]; omega
    go_upto_region 17 with fail
    obtain ⟨c1, c2, c3⟩ := (Y8.drew HS.out).cell m hx9
    obtain ⟨c4, c5, c6⟩ := (Y8.drew HS.out).cell h hy9
    have hbs := (Y8.drew HS.out).base
    obtain ⟨vx, hvx⟩ : ∃ v, v = l[m] := ⟨_, rfl⟩
    obtain ⟨vy, hvy⟩ : ∃ v, v = l[h] := ⟨_, rfl⟩
    obtain ⟨d, hd⟩ : ∃ d, d = Xm base vx - Xm base vy := ⟨_, rfl⟩
    have HD := VL hd
    have HV := VL (show d = Xm base l[m] - Xm base l[h] by rw [hd, hvx, hvy])
    rw [<- hvx] at c1
    rw [<- hvy] at c4
    clear hvx hvy hd
    refine wp_region_held_drew (S := (fun w' => w'.cell? ⟨g, m, none⟩ = some (.int .u16 vx) /\ w'.cell? ⟨g, h, none⟩ = some (.int .u16 vy))) (by kernel_rfl) (by (try dsimp only); exact ⟨c1, c4⟩) (fun ZL => ?_)
    refine wh 0 rfl (by kernel_rfl) (fun _ _ _ h => h) rfl ‹_› (by intro w h;go_simp;try with_reducible rfl) ?_
    try go_frame
    refine wh 1 rfl (by kernel_rfl) (fun _ _ _ h => h) rfl ‹_› (by intro w h;go_simp;try with_reducible rfl) ?_
    try go_frame
    refine wh 2 rfl (by kernel_rfl) (fun _ _ _ h => h) rfl ‹_› (by intro w h;go_simp;try with_reducible rfl) ?_
    try go_frame
    refine wh 3 rfl (by kernel_rfl) (fun _ _ _ h => h) rfl ‹_› (by intro w h;go_simp;try with_reducible rfl) ?_
    try go_frame
    refine wh 4 rfl (by kernel_rfl) (fun _ _ _ h => h) rfl ‹_› (by intro w h;go_simp;try with_reducible rfl) ?_
    try go_frame
    refine wh 5 rfl (by kernel_rfl) (fun _ _ _ h => h) rfl ‹_› (by intro w h;go_simp;try with_reducible rfl) ?_
    try go_frame
    refine wh 6 rfl (by kernel_rfl) (fun _ _ _ h => h) rfl ‹_› (by intro w h;go_simp;try with_reducible rfl) ?_
    try go_frame
    refine wh 7 rfl (by kernel_rfl) (fun _ _ _ h => h) rfl ‹_› (by intro w h;go_simp;try with_reducible rfl) ?_
    try go_frame
    refine wh 8 rfl (by kernel_rfl) (fun _ _ _ h => h) rfl ‹_› (by intro w h;go_simp;try with_reducible rfl) ?_
    try go_frame
    refine wpAnyH_ready (rs := [9]) (by kernel_rfl) (by simp) ?_
    refine AllReadyH.cons (o := _) rfl (fun K hK => ?_) AllReadyH.nil
    go_simp
    go_at_call 65; refine (cmpD _ B base vx vy d HD.out hbs).mono ?_; rintro e w2 ⟨rfl, hw⟩; subst hw
    try clear ZL
    refine hK.out _ _ (by (try dsimp only); exact ⟨c1, c4⟩) (fun ZL => ?_)
    clear hK K
    try go_frame
    refine wh 10 rfl (by kernel_rfl) (fun _ _ _ h => h) rfl ‹_› (by intro w h;go_simp;try with_reducible rfl) ?_
    try go_frame
    refine wh 11 rfl (by kernel_rfl) (fun _ _ _ h => h) rfl ‹_› (by intro w h;go_simp;try with_reducible rfl) ?_
    try go_frame
    refine wpAnyH_done (by kernel_rfl) ?_ _
    have HS1 := VL (Y8.drew HS.out)
    generalize World.drew wr = W1 at HS1 hbs c1 c2 c3 c4 c5 c6 ZL ⊢
    clear hbs c1 c2 c3 c4 c5 c6 ZL HD
    generalize hbb : (!decide (d < 0)) = bb
    rcases bb with _ | _
    ·have hdn : d < 0 := by simpa using hbb
     clear hbb
     go_wp2
     go_roundw
     case rel =>
      refine ⟨i, h, rfl, rfl, hi, by omega, by omega, VL ⟨fun hs => ?_, HS1.out⟩⟩
      have h1 := sort_le hs hy9 hx9 (by omega)
      have h2 := HV.out
      omega
     case measure => simp [intOf]; omega
    have hdp : 0 <= d := by simpa using hbb
    clear hbb
    go_wp2
    go_roundw
    case rel => exact ⟨h + 1, j, by go_num, rfl, by omega, by omega, hj, VL ⟨HSO.out, HS1.out⟩⟩
    case measure => simp [intOf]; omega
   have hije : i = j := by omega
   subst hije
   go_upto_region 21 with fail
   go_loopw [17] (fun kv wr => ∃ k : Nat, kv = .int .i64 k /\ i <= k /\ k <= m /\ Hid (∃ l1, Kept base l l1 /\ Y8 I M g c B base l1 wr)) (fun kv _ => (intOf kv).toNat)
   case atStart => exact ⟨m, rfl, by omega, by omega, VL ⟨l, .refl HR.out, HS.out⟩⟩
   case round =>
    obtain ⟨k, rfl, hk1, hk2, hh⟩ := hrel
    clear HS
    obtain ⟨l1, hkp, hs⟩ := hh.out
    clear hh
    have HKP := VL hkp
    have HS := VL hs
    by_cases hki : i < k
    ·skip
     have hki2 : (i : Int) < (k : Int) := by omega
     obtain ⟨k2, hk3⟩ : ∃ k2, k2 + 1 = k := ⟨k - 1, by omega⟩
     have hk4 : (k : Int) - 1 = (k2 : Int) := by omega
     have hx9 : k < l1.length := by rw [hkp.len, HN.out]; omega
     have hy9 : k2 < l1.length := by rw [hkp.len, HN.out]; omega
     have hkn : (k : Int) < (n : Int) := by omega
     have hkn2 : (k2 : Int) < (n : Int) := by omega
     have hkw : IntKind.i64.wrap (k : Int) = (k : Int) := wrap_i64 (by omega) (by omega)
     have hkw2 : IntKind.i64.wrap (k2 : Int) = (k2 : Int) := wrap_i64 (by omega) (by omega)
     have HK3 := VL hk3
     clear hkp hs hk3
     go_upto_region 23 with fail
     have YM := HS.out
     obtain ⟨c1, c2, c3⟩ := YM.cell k hx9
     obtain ⟨c4, c5, c6⟩ := YM.cell k2 hy9
     obtain ⟨vx, hvx⟩ : ∃ v, v = l1[k] := ⟨_, rfl⟩
     obtain ⟨vy, hvy⟩ : ∃ v, v = l1[k2] := ⟨_, rfl⟩
     have ZY := YM.set k hx9 l1[k2]
     have YN := ZY.set k2 (by rw [List.length_set]; exact hy9) l1[k]
     have HS3 := VL (show Y8 I M g c B base (swapL l1 k k2 hx9 hy9) _ from Y8.drew YN)
     rw [<- hvx, <- hvy] at HS3
     rw [<- hvx] at c1
     rw [<- hvy] at c4 ZY
     obtain ⟨d1, d2, d3⟩ := ZY.cell k2 (by rw [List.length_set]; exact hy9)
     clear YM ZY YN hvx hvy
      
     go_region
     go_wp2
     go_roundw
     case rel =>
      refine ⟨k2, by have := HK3.out; go_num, by have := HK3.out; omega, by have := HK3.out; omega, VL ⟨swapL l1 k k2 hx9 hy9, Kept.un (swapL_len.trans HKP.out.len) (swapL_rng HKP.out.rng) (fun Yu => ?_), HS3.out⟩⟩
      have h1 := HSO.out Yu
      omega
     case measure => have := HK3.out; simp [intOf]; omega
    have hki2 : ¬ ((i : Int) < (k : Int)) := by omega
    have HF := VL (show ∃ l', Kept base l l' /\ Y8 I M g c B base l' wr from ⟨l1, hkp, hs⟩)
    clear hkp hs HS HKP
    go_wp2
    go_returns
    exact ⟨rfl, HF.out⟩
 have hA1 : ((m : Int) - (a : Int) == 1) = false := by rw [beq_eq_false_iff_ne]; omega
 have hB1 : ((b : Int) - (m : Int) == 1) = false := by rw [beq_eq_false_iff_ne]; omega
 have ham2 : a + 2 <= m := by omega
 have hmb2 : m + 2 <= b := by omega
 clear hA hBc
 obtain ⟨mid, hmid⟩ : ∃ mid, mid = (a + b) / 2 := ⟨_, rfl⟩
 have hmd1 : ((a : Int) + (b : Int)) / 2 = (mid : Int) := by omega
 have hmd2 : a + b <= 2 * mid + 1 := by omega
 have hmd3 : 2 * mid <= a + b := by omega
 have hmd4 : a < mid := by omega
 have hmd5 : mid < b := by omega
 obtain ⟨N1, hN1⟩ : ∃ N1, N1 = mid + m := ⟨_, rfl⟩
 have hN2 : (mid : Int) + (m : Int) = (N1 : Int) := by omega
 obtain ⟨p, hp⟩ : ∃ p, p + 1 = N1 := ⟨N1 - 1, by omega⟩
 have hp2 : (N1 : Int) - 1 = (p : Int) := by omega
 have HNN := VL (And.intro hN1 hp)
 clear hmid hN1 hp
 by_cases hmm : mid < m
 ·skip
  obtain ⟨s0, hs0⟩ : ∃ s0, s0 = N1 - b := ⟨_, rfl⟩
  have ZY : (N1 : Int) - (b : Int) = (s0 : Int) := by have := HNN.out; omega
  have YN : a <= s0 := by have := HNN.out; omega
  have Zf : s0 <= mid := by have := HNN.out; omega
  have HS0 := VL hs0
  have hmm2 : (mid : Int) < (m : Int) := by omega
  clear hs0
  go_enter Try.func74, Try.ntmps74
  go_upto_region 33 with fail
  go_loopw [20, 21] (fun sv rv wr => ∃ s r : Nat, sv = .int .i64 s /\ rv = .int .i64 r /\ s0 <= s /\ s <= r /\ r <= mid /\ Hid ((SortK base l -> r = mid) /\ Y8 I M g c B base l wr)) (fun sv rv _ => (intOf rv).toNat - (intOf sv).toNat)
  case atStart => exact ⟨s0, mid, by first | rfl | go_num, rfl, by omega, by omega, by omega, VL ⟨fun _ => rfl, HS.out⟩⟩
  case round =>
   obtain ⟨s, r, rfl, rfl, Zo, Yu, hr5, hh⟩ := hrel
   clear HS
   obtain ⟨hso, hs⟩ := hh.out
   clear hh
   have HSO := VL hso
   have HS := VL hs
   clear hso hs
   by_cases Z0 : s < r
   ·skip
    obtain ⟨h, hh⟩ : ∃ h, h = (s + r) / 2 := ⟨_, rfl⟩
    have hh1 : (((s : Nat) : Int) + ((r : Nat) : Int)) / 2 = (h : Int) := by omega
    have hh2 : s <= h /\ h < r := by omega
    obtain ⟨hh3, hh4⟩ := hh2
    have hhn : (h : Int) < (n : Int) := by omega
    have hhw : IntKind.i64.wrap (h : Int) = (h : Int) := wrap_i64 (by omega) (by omega)
    clear hh
    obtain ⟨x, hx⟩ : ∃ x, x = p - h := ⟨_, rfl⟩
    have hxb : h < x /\ x < b := by have := HNN.out; have := HS0.out; omega
    obtain ⟨hxb1, hxb2⟩ := hxb
    have hxi : (p : Int) - (h : Int) = (x : Int) := by omega
    have hxn : (x : Int) < (n : Int) := by omega
    have hxw : IntKind.i64.wrap (x : Int) = (x : Int) := wrap_i64 (by omega) (by omega)
    have hx9 : x < l.length := by rw [HN.out]; omega
    have hy9 : h < l.length := by rw [HN.out]; omega
    clear hx
    go_upto_region 35 with fail
    obtain ⟨c1, c2, c3⟩ := (Y8.drew HS.out).cell x hx9
    obtain ⟨c4, c5, c6⟩ := (Y8.drew HS.out).cell h hy9
    have hbs := (Y8.drew HS.out).base
    obtain ⟨vx, hvx⟩ : ∃ v, v = l[x] := ⟨_, rfl⟩
    obtain ⟨vy, hvy⟩ : ∃ v, v = l[h] := ⟨_, rfl⟩
    obtain ⟨d, hd⟩ : ∃ d, d = Xm base vx - Xm base vy := ⟨_, rfl⟩
    have HD := VL hd
    have HV := VL (show d = Xm base l[x] - Xm base l[h] by rw [hd, hvx, hvy])
    rw [<- hvx] at c1
    rw [<- hvy] at c4
    clear hvx hvy hd
    refine wp_region_held_drew (S := (fun w' => w'.cell? ⟨g, x, none⟩ = some (.int .u16 vx) /\ w'.cell? ⟨g, h, none⟩ = some (.int .u16 vy))) (by kernel_rfl) (by (try dsimp only); exact ⟨c1, c4⟩) (fun ZL => ?_)
    refine wh 0 rfl (by kernel_rfl) (fun _ _ _ h => h) rfl ‹_› (by intro w h;go_simp;try with_reducible rfl) ?_
    try go_frame
    refine wh 1 rfl (by kernel_rfl) (fun _ _ _ h => h) rfl ‹_› (by intro w h;go_simp;try with_reducible rfl) ?_
    try go_frame
    refine wh 2 rfl (by kernel_rfl) (fun _ _ _ h => h) rfl ‹_› (by intro w h;go_simp;try with_reducible rfl) ?_
    try go_frame
    refine wh 3 rfl (by kernel_rfl) (fun _ _ _ h => h) rfl ‹_› (by intro w h;go_simp;try with_reducible rfl) ?_
    try go_frame
    refine wh 4 rfl (by kernel_rfl) (fun _ _ _ h => h) rfl ‹_› (by intro w h;go_simp;try with_reducible rfl) ?_
    try go_frame
    refine wh 5 rfl (by kernel_rfl) (fun _ _ _ h => h) rfl ‹_› (by intro w h;go_simp;try with_reducible rfl) ?_
    try go_frame
    refine wh 6 rfl (by kernel_rfl) (fun _ _ _ h => h) rfl ‹_› (by intro w h;go_simp;try with_reducible rfl) ?_
    try go_frame
    refine wh 7 rfl (by kernel_rfl) (fun _ _ _ h => h) rfl ‹_› (by intro w h;go_simp;try with_reducible rfl) ?_
    try go_frame
    refine wh 8 rfl (by kernel_rfl) (fun _ _ _ h => h) rfl ‹_› (by intro w h;go_simp;try with_reducible rfl) ?_
    try go_frame
    refine wh 9 rfl (by kernel_rfl) (fun _ _ _ h => h) rfl ‹_› (by intro w h;go_simp;try with_reducible rfl) ?_
    try go_frame
    refine wh 10 rfl (by kernel_rfl) (fun _ _ _ h => h) rfl ‹_› (by intro w h;go_simp;try with_reducible rfl) ?_
    try go_frame
    refine wpAnyH_ready (rs := [11]) (by kernel_rfl) (by simp) ?_
    refine AllReadyH.cons (o := _) rfl (fun K hK => ?_) AllReadyH.nil
    go_simp
    go_at_call 65; refine (cmpD _ B base vx vy d HD.out hbs).mono ?_; rintro e w2 ⟨rfl, hw⟩; subst hw
    try clear ZL
    refine hK.out _ _ (by (try dsimp only); exact ⟨c1, c4⟩) (fun ZL => ?_)
    clear hK K
    try go_frame
    refine wh 12 rfl (by kernel_rfl) (fun _ _ _ h => h) rfl ‹_› (by intro w h;go_simp;try with_reducible rfl) ?_
    try go_frame
    refine wh 13 rfl (by kernel_rfl) (fun _ _ _ h => h) rfl ‹_› (by intro w h;go_simp;try with_reducible rfl) ?_
    try go_frame
    refine wpAnyH_done (by kernel_rfl) ?_ _
    have HS1 := VL (Y8.drew HS.out)
    generalize World.drew wr = W1 at HS1 hbs c1 c2 c3 c4 c5 c6 ZL ⊢
    clear hbs c1 c2 c3 c4 c5 c6 ZL HD
    generalize hbb : (!decide (d < 0)) = bb
    rcases bb with _ | _
    ·have hdn : d < 0 := by simpa using hbb
     clear hbb
     go_wp2
     go_roundw
     case rel =>
      refine ⟨s, h, rfl, rfl, Zo, by omega, by omega, VL ⟨fun hs => ?_, HS1.out⟩⟩
      have h1 := sort_le hs hy9 hx9 (by omega)
      have h2 := HV.out
      omega
     case measure => simp [intOf]; omega
    have hdp : 0 <= d := by simpa using hbb
    clear hbb
    go_wp2
    go_roundw
    case rel => exact ⟨h + 1, r, by go_num, rfl, by omega, by omega, hr5, VL ⟨HSO.out, HS1.out⟩⟩
    case measure => simp [intOf]; omega
   have hse : s = r := by omega
   subst hse
   obtain ⟨e, he⟩ : ∃ e, e = N1 - s := ⟨_, rfl⟩
   have heb : m <= e /\ e <= b /\ mid <= e := by have := HNN.out; have := HS0.out; omega
   obtain ⟨he1, he2, he3⟩ := heb
   have hei : (N1 : Int) - (s : Int) = (e : Int) := by have := HNN.out; omega
   have HE := VL he
   clear he
   go_upto_region 39 with fail
   have HK0 := VL (Kept.refl (base := base) HR.out)
   by_cases hrt : m < e
   ·skip
    have hr3 : (s : Int) < (m : Int) := by omega
    have hr4 : (m : Int) < (e : Int) := by have := HE.out; have := HNN.out; omega
    have hrm : m < e := by omega
    have HC := VL (rotateC I M _ g c B n base l s m e HN.out (by omega) hrm (by omega) hn1 HR.out HS.out)
    clear HS
    go_wp2_with fail
    go_at_call 75
    refine HC.out.mono ?_
    clear HC
    rintro e7 w7 ⟨rfl, l7, ⟨hl7, hr7⟩, hs7⟩
    have HK7 := VL (Kept.un (base := base) (l := l) (l' := l7) (by rw [hl7, HN.out]) hr7 (fun hs => by
     have h1 := HSO.out hs
     have h2 := HE.out
     have h3 := HNN.out
     omega))
    have HS := VL hs7
    clear hl7 hr7 hs7
    by_cases hb1 : a < s
    ·by_cases hb2 : s < mid
     ·skip
      have hb3 : (a : Int) < (s : Int) := by omega
      have hb4 : (s : Int) < (mid : Int) := by omega
      have HC := VL (IH.out l7 _ a s mid (by omega) (by rw [HK7.out.len, HN.out]) hb1 hb2 (by omega) HK7.out.rng HS.out)
      clear HS
      go_wp2_with fail
      go_at_call 74
      refine HC.out.mono ?_
      clear HC
      rintro e8 w8 ⟨rfl, l8, hk8, hs8⟩
      have HK8 := VL (HK7.out.trans hk8)
      have HS := VL hs8
      clear hk8 hs8
      by_cases Zc : mid < e
      ·by_cases hc2 : e < b
       ·skip
        have hc3 : (mid : Int) < (e : Int) := by omega
        have hc4 : (e : Int) < (b : Int) := by omega
        have HC := VL (IH.out l8 _ mid e b (by omega) (by rw [HK8.out.len, HN.out]) Zc hc2 hb HK8.out.rng HS.out)
        clear HS
        go_wp2_with fail
        go_at_call 74
        refine HC.out.mono ?_
        clear HC
        rintro e9 w9 ⟨rfl, l9, hk9, hs9⟩
        have HF := VL (show ∃ l', Kept base l l' /\ Y8 I M g c B base l' w9 from ⟨l9, HK8.out.trans hk9, hs9⟩)
        clear hk9 hs9
        go_wp2
        go_returns
        exact ⟨rfl, HF.out⟩
       have hc3 : (mid : Int) < (e : Int) := by omega
       have hc4 : ¬ ((e : Int) < (b : Int)) := by omega
       have HF := VL (show ∃ l', Kept base l l' /\ Y8 I M g c B base l' _ from ⟨l8, HK8.out, HS.out⟩)
       clear HS
       go_wp2
       go_returns
       exact ⟨rfl, HF.out⟩
      have hc3 : ¬ ((mid : Int) < (e : Int)) := by omega
      have HF := VL (show ∃ l', Kept base l l' /\ Y8 I M g c B base l' _ from ⟨l8, HK8.out, HS.out⟩)
      clear HS
      go_wp2
      go_returns
      exact ⟨rfl, HF.out⟩
     have hb3 : (a : Int) < (s : Int) := by omega
     have hb4 : ¬ ((s : Int) < (mid : Int)) := by omega
     by_cases Zc : mid < e
     ·by_cases hc2 : e < b
      ·skip
       have hc3 : (mid : Int) < (e : Int) := by omega
       have hc4 : (e : Int) < (b : Int) := by omega
       have HC := VL (IH.out l7 _ mid e b (by omega) (by rw [HK7.out.len, HN.out]) Zc hc2 hb HK7.out.rng HS.out)
       clear HS
       go_wp2_with fail
       go_at_call 74
       refine HC.out.mono ?_
       clear HC
       rintro e9 w9 ⟨rfl, l9, hk9, hs9⟩
       have HF := VL (show ∃ l', Kept base l l' /\ Y8 I M g c B base l' w9 from ⟨l9, HK7.out.trans hk9, hs9⟩)
       clear hk9 hs9
       go_wp2
       go_returns
       exact ⟨rfl, HF.out⟩
      have hc3 : (mid : Int) < (e : Int) := by omega
      have hc4 : ¬ ((e : Int) < (b : Int)) := by omega
      have HF := VL (show ∃ l', Kept base l l' /\ Y8 I M g c B base l' _ from ⟨l7, HK7.out, HS.out⟩)
      clear HS
      go_wp2
      go_returns
      exact ⟨rfl, HF.out⟩
     have hc3 : ¬ ((mid : Int) < (e : Int)) := by omega
     have HF := VL (show ∃ l', Kept base l l' /\ Y8 I M g c B base l' _ from ⟨l7, HK7.out, HS.out⟩)
     clear HS
     go_wp2
     go_returns
     exact ⟨rfl, HF.out⟩
    have hb3 : ¬ ((a : Int) < (s : Int)) := by omega
    by_cases Zc : mid < e
    ·by_cases hc2 : e < b
     ·skip
      have hc3 : (mid : Int) < (e : Int) := by omega
      have hc4 : (e : Int) < (b : Int) := by omega
      have HC := VL (IH.out l7 _ mid e b (by omega) (by rw [HK7.out.len, HN.out]) Zc hc2 hb HK7.out.rng HS.out)
      clear HS
      go_wp2_with fail
      go_at_call 74
      refine HC.out.mono ?_
      clear HC
      rintro e9 w9 ⟨rfl, l9, hk9, hs9⟩
      have HF := VL (show ∃ l', Kept base l l' /\ Y8 I M g c B base l' w9 from ⟨l9, HK7.out.trans hk9, hs9⟩)
      clear hk9 hs9
      go_wp2
      go_returns
      exact ⟨rfl, HF.out⟩
     have hc3 : (mid : Int) < (e : Int) := by omega
     have hc4 : ¬ ((e : Int) < (b : Int)) := by omega
     have HF := VL (show ∃ l', Kept base l l' /\ Y8 I M g c B base l' _ from ⟨l7, HK7.out, HS.out⟩)
     clear HS
     go_wp2
     go_returns
     exact ⟨rfl, HF.out⟩
    have hc3 : ¬ ((mid : Int) < (e : Int)) := by omega
    have HF := VL (show ∃ l', Kept base l l' /\ Y8 I M g c B base l' _ from ⟨l7, HK7.out, HS.out⟩)
    clear HS
    go_wp2
    go_returns
    exact ⟨rfl, HF.out⟩
   have hr3 : (s : Int) < (m : Int) := by omega
   have hr4 : ¬ ((m : Int) < (e : Int)) := by omega
   by_cases hb1 : a < s
   ·by_cases hb2 : s < mid
    ·skip
     have hb3 : (a : Int) < (s : Int) := by omega
     have hb4 : (s : Int) < (mid : Int) := by omega
     have HC := VL (IH.out l _ a s mid (by omega) (by rw [HK0.out.len, HN.out]) hb1 hb2 (by omega) HK0.out.rng HS.out)
     clear HS
     go_wp2_with fail
     go_at_call 74
     refine HC.out.mono ?_
     clear HC
     rintro e8 w8 ⟨rfl, l8, hk8, hs8⟩
     have HK8 := VL (HK0.out.trans hk8)
     have HS := VL hs8
     clear hk8 hs8
     by_cases Zc : mid < e
     ·by_cases hc2 : e < b
      ·skip
       have hc3 : (mid : Int) < (e : Int) := by omega
       have hc4 : (e : Int) < (b : Int) := by omega
       have HC := VL (IH.out l8 _ mid e b (by omega) (by rw [HK8.out.len, HN.out]) Zc hc2 hb HK8.out.rng HS.out)
       clear HS
       go_wp2_with fail
       go_at_call 74
       refine HC.out.mono ?_
       clear HC
       rintro e9 w9 ⟨rfl, l9, hk9, hs9⟩
       have HF := VL (show ∃ l', Kept base l l' /\ Y8 I M g c B base l' w9 from ⟨l9, HK8.out.trans hk9, hs9⟩)
       clear hk9 hs9
       go_wp2
       go_returns
       exact ⟨rfl, HF.out⟩
      have hc3 : (mid : Int) < (e : Int) := by omega
      have hc4 : ¬ ((e : Int) < (b : Int)) := by omega
      have HF := VL (show ∃ l', Kept base l l' /\ Y8 I M g c B base l' _ from ⟨l8, HK8.out, HS.out⟩)
      clear HS
      go_wp2
      go_returns
      exact ⟨rfl, HF.out⟩
     have hc3 : ¬ ((mid : Int) < (e : Int)) := by omega
     have HF := VL (show ∃ l', Kept base l l' /\ Y8 I M g c B base l' _ from ⟨l8, HK8.out, HS.out⟩)
     clear HS
     go_wp2
     go_returns
     exact ⟨rfl, HF.out⟩
    have hb3 : (a : Int) < (s : Int) := by omega
    have hb4 : ¬ ((s : Int) < (mid : Int)) := by omega
    by_cases Zc : mid < e
    ·by_cases hc2 : e < b
     ·skip
      have hc3 : (mid : Int) < (e : Int) := by omega
      have hc4 : (e : Int) < (b : Int) := by omega
      have HC := VL (IH.out l _ mid e b (by omega) (by rw [HK0.out.len, HN.out]) Zc hc2 hb HK0.out.rng HS.out)
      clear HS
      go_wp2_with fail
      go_at_call 74
      refine HC.out.mono ?_
      clear HC
      rintro e9 w9 ⟨rfl, l9, hk9, hs9⟩
      have HF := VL (show ∃ l', Kept base l l' /\ Y8 I M g c B base l' w9 from ⟨l9, HK0.out.trans hk9, hs9⟩)
      clear hk9 hs9
      go_wp2
      go_returns
      exact ⟨rfl, HF.out⟩
     have hc3 : (mid : Int) < (e : Int) := by omega
     have hc4 : ¬ ((e : Int) < (b : Int)) := by omega
     have HF := VL (show ∃ l', Kept base l l' /\ Y8 I M g c B base l' _ from ⟨l, HK0.out, HS.out⟩)
     clear HS
     go_wp2
     go_returns
     exact ⟨rfl, HF.out⟩
    have hc3 : ¬ ((mid : Int) < (e : Int)) := by omega
    have HF := VL (show ∃ l', Kept base l l' /\ Y8 I M g c B base l' _ from ⟨l, HK0.out, HS.out⟩)
    clear HS
    go_wp2
    go_returns
    exact ⟨rfl, HF.out⟩
   have hb3 : ¬ ((a : Int) < (s : Int)) := by omega
   by_cases Zc : mid < e
   ·by_cases hc2 : e < b
    ·skip
     have hc3 : (mid : Int) < (e : Int) := by omega
     have hc4 : (e : Int) < (b : Int) := by omega
     have HC := VL (IH.out l _ mid e b (by omega) (by rw [HK0.out.len, HN.out]) Zc hc2 hb HK0.out.rng HS.out)
     clear HS
     go_wp2_with fail
     go_at_call 74
     refine HC.out.mono ?_
     clear HC
     rintro e9 w9 ⟨rfl, l9, hk9, hs9⟩
     have HF := VL (show ∃ l', Kept base l l' /\ Y8 I M g c B base l' w9 from ⟨l9, HK0.out.trans hk9, hs9⟩)
     clear hk9 hs9
     go_wp2
     go_returns
     exact ⟨rfl, HF.out⟩
    have hc3 : (mid : Int) < (e : Int) := by omega
    have hc4 : ¬ ((e : Int) < (b : Int)) := by omega
    have HF := VL (show ∃ l', Kept base l l' /\ Y8 I M g c B base l' _ from ⟨l, HK0.out, HS.out⟩)
    clear HS
    go_wp2
    go_returns
    exact ⟨rfl, HF.out⟩
   have hc3 : ¬ ((mid : Int) < (e : Int)) := by omega
   have HF := VL (show ∃ l', Kept base l l' /\ Y8 I M g c B base l' _ from ⟨l, HK0.out, HS.out⟩)
   clear HS
   go_wp2
   go_returns
   exact ⟨rfl, HF.out⟩
 have hmm2 : (m : Int) <= (mid : Int) := by omega
 go_enter Try.func74, Try.ntmps74
 go_upto_region 33 with fail
 go_loopw [20, 21] (fun sv rv wr => ∃ s r : Nat, sv = .int .i64 s /\ rv = .int .i64 r /\ a <= s /\ s <= r /\ r <= m /\ Hid ((SortK base l -> r = m) /\ Y8 I M g c B base l wr)) (fun sv rv _ => (intOf rv).toNat - (intOf sv).toNat)
 case atStart => exact ⟨a, m, by first | rfl | go_num, rfl, by omega, by omega, by omega, VL ⟨fun _ => rfl, HS.out⟩⟩
 case round =>
  obtain ⟨s, r, rfl, rfl, Zo, Yu, hr5, hh⟩ := hrel
  clear HS
  obtain ⟨hso, hs⟩ := hh.out
  clear hh
  have HSO := VL hso
  have HS := VL hs
  clear hso hs
  by_cases Z0 : s < r
  ·skip
   obtain ⟨h, hh⟩ : ∃ h, h = (s + r) / 2 := ⟨_, rfl⟩
   have hh1 : (((s : Nat) : Int) + ((r : Nat) : Int)) / 2 = (h : Int) := by omega
   have hh2 : s <= h /\ h < r := by omega
   obtain ⟨hh3, hh4⟩ := hh2
   have hhn : (h : Int) < (n : Int) := by omega
   have hhw : IntKind.i64.wrap (h : Int) = (h : Int) := wrap_i64 (by omega) (by omega)
   clear hh
   obtain ⟨x, hx⟩ : ∃ x, x = p - h := ⟨_, rfl⟩
   have hxb : h < x /\ x < b := by have := HNN.out; omega
   obtain ⟨hxb1, hxb2⟩ := hxb
   have hxi : (p : Int) - (h : Int) = (x : Int) := by omega
   have hxn : (x : Int) < (n : Int) := by omega
   have hxw : IntKind.i64.wrap (x : Int) = (x : Int) := wrap_i64 (by omega) (by omega)
   have hx9 : x < l.length := by rw [HN.out]; omega
   have hy9 : h < l.length := by rw [HN.out]; omega
   clear hx
   go_upto_region 35 with fail
   obtain ⟨c1, c2, c3⟩ := (Y8.drew HS.out).cell x hx9
   obtain ⟨c4, c5, c6⟩ := (Y8.drew HS.out).cell h hy9
   have hbs := (Y8.drew HS.out).base
   obtain ⟨vx, hvx⟩ : ∃ v, v = l[x] := ⟨_, rfl⟩
   obtain ⟨vy, hvy⟩ : ∃ v, v = l[h] := ⟨_, rfl⟩
   obtain ⟨d, hd⟩ : ∃ d, d = Xm base vx - Xm base vy := ⟨_, rfl⟩
   have HD := VL hd
   have HV := VL (show d = Xm base l[x] - Xm base l[h] by rw [hd, hvx, hvy])
   rw [<- hvx] at c1
   rw [<- hvy] at c4
   clear hvx hvy hd
   refine wp_region_held_drew (S := (fun w' => w'.cell? ⟨g, x, none⟩ = some (.int .u16 vx) /\ w'.cell? ⟨g, h, none⟩ = some (.int .u16 vy))) (by kernel_rfl) (by (try dsimp only); exact ⟨c1, c4⟩) (fun ZL => ?_)
   refine wh 0 rfl (by kernel_rfl) (fun _ _ _ h => h) rfl ‹_› (by intro w h;go_simp;try with_reducible rfl) ?_
   try go_frame
   refine wh 1 rfl (by kernel_rfl) (fun _ _ _ h => h) rfl ‹_› (by intro w h;go_simp;try with_reducible rfl) ?_
   try go_frame
   refine wh 2 rfl (by kernel_rfl) (fun _ _ _ h => h) rfl ‹_› (by intro w h;go_simp;try with_reducible rfl) ?_
   try go_frame
   refine wh 3 rfl (by kernel_rfl) (fun _ _ _ h => h) rfl ‹_› (by intro w h;go_simp;try with_reducible rfl) ?_
   try go_frame
   refine wh 4 rfl (by kernel_rfl) (fun _ _ _ h => h) rfl ‹_› (by intro w h;go_simp;try with_reducible rfl) ?_
   try go_frame
   refine wh 5 rfl (by kernel_rfl) (fun _ _ _ h => h) rfl ‹_› (by intro w h;go_simp;try with_reducible rfl) ?_
   try go_frame
   refine wh 6 rfl (by kernel_rfl) (fun _ _ _ h => h) rfl ‹_› (by intro w h;go_simp;try with_reducible rfl) ?_
   try go_frame
   refine wh 7 rfl (by kernel_rfl) (fun _ _ _ h => h) rfl ‹_› (by intro w h;go_simp;try with_reducible rfl) ?_
   try go_frame
   refine wh 8 rfl (by kernel_rfl) (fun _ _ _ h => h) rfl ‹_› (by intro w h;go_simp;try with_reducible rfl) ?_
   try go_frame
   refine wh 9 rfl (by kernel_rfl) (fun _ _ _ h => h) rfl ‹_› (by intro w h;go_simp;try with_reducible rfl) ?_
   try go_frame
   refine wh 10 rfl (by kernel_rfl) (fun _ _ _ h => h) rfl ‹_› (by intro w h;go_simp;try with_reducible rfl) ?_
   try go_frame
   refine wpAnyH_ready (rs := [11]) (by kernel_rfl) (by simp) ?_
   refine AllReadyH.cons (o := _) rfl (fun K hK => ?_) AllReadyH.nil
   go_simp
   go_at_call 65; refine (cmpD _ B base vx vy d HD.out hbs).mono ?_; rintro e w2 ⟨rfl, hw⟩; subst hw
   try clear ZL
   refine hK.out _ _ (by (try dsimp only); exact ⟨c1, c4⟩) (fun ZL => ?_)
   clear hK K
   try go_frame
   refine wh 12 rfl (by kernel_rfl) (fun _ _ _ h => h) rfl ‹_› (by intro w h;go_simp;try with_reducible rfl) ?_
   try go_frame
   refine wh 13 rfl (by kernel_rfl) (fun _ _ _ h => h) rfl ‹_› (by intro w h;go_simp;try with_reducible rfl) ?_
   try go_frame
   refine wpAnyH_done (by kernel_rfl) ?_ _
   have HS1 := VL (Y8.drew HS.out)
   generalize World.drew wr = W1 at HS1 hbs c1 c2 c3 c4 c5 c6 ZL ⊢
   clear hbs c1 c2 c3 c4 c5 c6 ZL HD
   generalize hbb : (!decide (d < 0)) = bb
   rcases bb with _ | _
   ·have hdn : d < 0 := by simpa using hbb
    clear hbb
    go_wp2
    go_roundw
    case rel =>
     refine ⟨s, h, rfl, rfl, Zo, by omega, by omega, VL ⟨fun hs => ?_, HS1.out⟩⟩
     have h1 := sort_le hs hy9 hx9 (by omega)
     have h2 := HV.out
     omega
    case measure => simp [intOf]; omega
   have hdp : 0 <= d := by simpa using hbb
   clear hbb
   go_wp2
   go_roundw
   case rel => exact ⟨h + 1, r, by go_num, rfl, by omega, by omega, hr5, VL ⟨HSO.out, HS1.out⟩⟩
   case measure => simp [intOf]; omega
  have hse : s = r := by omega
  subst hse
  obtain ⟨e, he⟩ : ∃ e, e = N1 - s := ⟨_, rfl⟩
  have heb : m <= e /\ e <= b /\ mid <= e := by have := HNN.out; omega
  obtain ⟨he1, he2, he3⟩ := heb
  have hei : (N1 : Int) - (s : Int) = (e : Int) := by have := HNN.out; omega
  have HE := VL he
  clear he
  go_upto_region 39 with fail
  have HK0 := VL (Kept.refl (base := base) HR.out)
  by_cases hrt : s < m
  ·skip
   have hr3 : (s : Int) < (m : Int) := by omega
   have hr4 : (m : Int) < (e : Int) := by have := HE.out; have := HNN.out; omega
   have hrm : m < e := by omega
   have HC := VL (rotateC I M _ g c B n base l s m e HN.out (by omega) hrm (by omega) hn1 HR.out HS.out)
   clear HS
   go_wp2_with fail
   go_at_call 75
   refine HC.out.mono ?_
   clear HC
   rintro e7 w7 ⟨rfl, l7, ⟨hl7, hr7⟩, hs7⟩
   have HK7 := VL (Kept.un (base := base) (l := l) (l' := l7) (by rw [hl7, HN.out]) hr7 (fun hs => by
    have h1 := HSO.out hs
    have h2 := HE.out
    have h3 := HNN.out
    omega))
   have HS := VL hs7
   clear hl7 hr7 hs7
   by_cases hb1 : a < s
   ·by_cases hb2 : s < mid
    ·skip
     have hb3 : (a : Int) < (s : Int) := by omega
     have hb4 : (s : Int) < (mid : Int) := by omega
     have HC := VL (IH.out l7 _ a s mid (by omega) (by rw [HK7.out.len, HN.out]) hb1 hb2 (by omega) HK7.out.rng HS.out)
     clear HS
     go_wp2_with fail
     go_at_call 74
     refine HC.out.mono ?_
     clear HC
     rintro e8 w8 ⟨rfl, l8, hk8, hs8⟩
     have HK8 := VL (HK7.out.trans hk8)
     have HS := VL hs8
     clear hk8 hs8
     by_cases Zc : mid < e
     ·by_cases hc2 : e < b
      ·skip
       have hc3 : (mid : Int) < (e : Int) := by omega
       have hc4 : (e : Int) < (b : Int) := by omega
       have HC := VL (IH.out l8 _ mid e b (by omega) (by rw [HK8.out.len, HN.out]) Zc hc2 hb HK8.out.rng HS.out)
       clear HS
       go_wp2_with fail
       go_at_call 74
       refine HC.out.mono ?_
       clear HC
       rintro e9 w9 ⟨rfl, l9, hk9, hs9⟩
       have HF := VL (show ∃ l', Kept base l l' /\ Y8 I M g c B base l' w9 from ⟨l9, HK8.out.trans hk9, hs9⟩)
       clear hk9 hs9
       go_wp2
       go_returns
       exact ⟨rfl, HF.out⟩
      have hc3 : (mid : Int) < (e : Int) := by omega
      have hc4 : ¬ ((e : Int) < (b : Int)) := by omega
      have HF := VL (show ∃ l', Kept base l l' /\ Y8 I M g c B base l' _ from ⟨l8, HK8.out, HS.out⟩)
      clear HS
      go_wp2
      go_returns
      exact ⟨rfl, HF.out⟩
     have hc3 : ¬ ((mid : Int) < (e : Int)) := by omega
     have HF := VL (show ∃ l', Kept base l l' /\ Y8 I M g c B base l' _ from ⟨l8, HK8.out, HS.out⟩)
     clear HS
     go_wp2
     go_returns
     exact ⟨rfl, HF.out⟩
    have hb3 : (a : Int) < (s : Int) := by omega
    have hb4 : ¬ ((s : Int) < (mid : Int)) := by omega
    by_cases Zc : mid < e
    ·by_cases hc2 : e < b
     ·skip
      have hc3 : (mid : Int) < (e : Int) := by omega
      have hc4 : (e : Int) < (b : Int) := by omega
      have HC := VL (IH.out l7 _ mid e b (by omega) (by rw [HK7.out.len, HN.out]) Zc hc2 hb HK7.out.rng HS.out)
      clear HS
      go_wp2_with fail
      go_at_call 74
      refine HC.out.mono ?_
      clear HC
      rintro e9 w9 ⟨rfl, l9, hk9, hs9⟩
      have HF := VL (show ∃ l', Kept base l l' /\ Y8 I M g c B base l' w9 from ⟨l9, HK7.out.trans hk9, hs9⟩)
      clear hk9 hs9
      go_wp2
      go_returns
      exact ⟨rfl, HF.out⟩
     have hc3 : (mid : Int) < (e : Int) := by omega
     have hc4 : ¬ ((e : Int) < (b : Int)) := by omega
     have HF := VL (show ∃ l', Kept base l l' /\ Y8 I M g c B base l' _ from ⟨l7, HK7.out, HS.out⟩)
     clear HS
     go_wp2
     go_returns
     exact ⟨rfl, HF.out⟩
    have hc3 : ¬ ((mid : Int) < (e : Int)) := by omega
    have HF := VL (show ∃ l', Kept base l l' /\ Y8 I M g c B base l' _ from ⟨l7, HK7.out, HS.out⟩)
    clear HS
    go_wp2
    go_returns
    exact ⟨rfl, HF.out⟩
   have hb3 : ¬ ((a : Int) < (s : Int)) := by omega
   by_cases Zc : mid < e
   ·by_cases hc2 : e < b
    ·skip
     have hc3 : (mid : Int) < (e : Int) := by omega
     have hc4 : (e : Int) < (b : Int) := by omega
     have HC := VL (IH.out l7 _ mid e b (by omega) (by rw [HK7.out.len, HN.out]) Zc hc2 hb HK7.out.rng HS.out)
     clear HS
     go_wp2_with fail
     go_at_call 74
     refine HC.out.mono ?_
     clear HC
     rintro e9 w9 ⟨rfl, l9, hk9, hs9⟩
     have HF := VL (show ∃ l', Kept base l l' /\ Y8 I M g c B base l' w9 from ⟨l9, HK7.out.trans hk9, hs9⟩)
     clear hk9 hs9
     go_wp2
     go_returns
     exact ⟨rfl, HF.out⟩
    have hc3 : (mid : Int) < (e : Int) := by omega
    have hc4 : ¬ ((e : Int) < (b : Int)) := by omega
    have HF := VL (show ∃ l', Kept base l l' /\ Y8 I M g c B base l' _ from ⟨l7, HK7.out, HS.out⟩)
    clear HS
    go_wp2
    go_returns
    exact ⟨rfl, HF.out⟩
   have hc3 : ¬ ((mid : Int) < (e : Int)) := by omega
   have HF := VL (show ∃ l', Kept base l l' /\ Y8 I M g c B base l' _ from ⟨l7, HK7.out, HS.out⟩)
   clear HS
   go_wp2
   go_returns
   exact ⟨rfl, HF.out⟩
  have hr3 : ¬ ((s : Int) < (m : Int)) := by omega
  by_cases hb1 : a < s
  ·by_cases hb2 : s < mid
   ·skip
    have hb3 : (a : Int) < (s : Int) := by omega
    have hb4 : (s : Int) < (mid : Int) := by omega
    have HC := VL (IH.out l _ a s mid (by omega) (by rw [HK0.out.len, HN.out]) hb1 hb2 (by omega) HK0.out.rng HS.out)
    clear HS
    go_wp2_with fail
    go_at_call 74
    refine HC.out.mono ?_
    clear HC
    rintro e8 w8 ⟨rfl, l8, hk8, hs8⟩
    have HK8 := VL (HK0.out.trans hk8)
    have HS := VL hs8
    clear hk8 hs8
    by_cases Zc : mid < e
    ·by_cases hc2 : e < b
     ·skip
      have hc3 : (mid : Int) < (e : Int) := by omega
      have hc4 : (e : Int) < (b : Int) := by omega
      have HC := VL (IH.out l8 _ mid e b (by omega) (by rw [HK8.out.len, HN.out]) Zc hc2 hb HK8.out.rng HS.out)
      clear HS
      go_wp2_with fail
      go_at_call 74
      refine HC.out.mono ?_
      clear HC
      rintro e9 w9 ⟨rfl, l9, hk9, hs9⟩
      have HF := VL (show ∃ l', Kept base l l' /\ Y8 I M g c B base l' w9 from ⟨l9, HK8.out.trans hk9, hs9⟩)
      clear hk9 hs9
      go_wp2
      go_returns
      exact ⟨rfl, HF.out⟩
     have hc3 : (mid : Int) < (e : Int) := by omega
     have hc4 : ¬ ((e : Int) < (b : Int)) := by omega
     have HF := VL (show ∃ l', Kept base l l' /\ Y8 I M g c B base l' _ from ⟨l8, HK8.out, HS.out⟩)
     clear HS
     go_wp2
     go_returns
     exact ⟨rfl, HF.out⟩
    have hc3 : ¬ ((mid : Int) < (e : Int)) := by omega
    have HF := VL (show ∃ l', Kept base l l' /\ Y8 I M g c B base l' _ from ⟨l8, HK8.out, HS.out⟩)
    clear HS
    go_wp2
    go_returns
    exact ⟨rfl, HF.out⟩
   have hb3 : (a : Int) < (s : Int) := by omega
   have hb4 : ¬ ((s : Int) < (mid : Int)) := by omega
   by_cases Zc : mid < e
   ·by_cases hc2 : e < b
    ·skip
     have hc3 : (mid : Int) < (e : Int) := by omega
     have hc4 : (e : Int) < (b : Int) := by omega
     have HC := VL (IH.out l _ mid e b (by omega) (by rw [HK0.out.len, HN.out]) Zc hc2 hb HK0.out.rng HS.out)
     clear HS
     go_wp2_with fail
     go_at_call 74
     refine HC.out.mono ?_
     clear HC
     rintro e9 w9 ⟨rfl, l9, hk9, hs9⟩
     have HF := VL (show ∃ l', Kept base l l' /\ Y8 I M g c B base l' w9 from ⟨l9, HK0.out.trans hk9, hs9⟩)
     clear hk9 hs9
     go_wp2
     go_returns
     exact ⟨rfl, HF.out⟩
    have hc3 : (mid : Int) < (e : Int) := by omega
    have hc4 : ¬ ((e : Int) < (b : Int)) := by omega
    have HF := VL (show ∃ l', Kept base l l' /\ Y8 I M g c B base l' _ from ⟨l, HK0.out, HS.out⟩)
    clear HS
    go_wp2
    go_returns
    exact ⟨rfl, HF.out⟩
   have hc3 : ¬ ((mid : Int) < (e : Int)) := by omega
   have HF := VL (show ∃ l', Kept base l l' /\ Y8 I M g c B base l' _ from ⟨l, HK0.out, HS.out⟩)
   clear HS
   go_wp2
   go_returns
   exact ⟨rfl, HF.out⟩
  have hb3 : ¬ ((a : Int) < (s : Int)) := by omega
  by_cases Zc : mid < e
  ·by_cases hc2 : e < b
   ·skip
    have hc3 : (mid : Int) < (e : Int) := by omega
    have hc4 : (e : Int) < (b : Int) := by omega
    have HC := VL (IH.out l _ mid e b (by omega) (by rw [HK0.out.len, HN.out]) Zc hc2 hb HK0.out.rng HS.out)
    clear HS
    go_wp2_with fail
    go_at_call 74
    refine HC.out.mono ?_
    clear HC
    rintro e9 w9 ⟨rfl, l9, hk9, hs9⟩
    have HF := VL (show ∃ l', Kept base l l' /\ Y8 I M g c B base l' w9 from ⟨l9, HK0.out.trans hk9, hs9⟩)
    clear hk9 hs9
    go_wp2
    go_returns
    exact ⟨rfl, HF.out⟩
   have hc3 : (mid : Int) < (e : Int) := by omega
   have hc4 : ¬ ((e : Int) < (b : Int)) := by omega
   have HF := VL (show ∃ l', Kept base l l' /\ Y8 I M g c B base l' _ from ⟨l, HK0.out, HS.out⟩)
   clear HS
   go_wp2
   go_returns
   exact ⟨rfl, HF.out⟩
  have hc3 : ¬ ((mid : Int) < (e : Int)) := by omega
  have HF := VL (show ∃ l', Kept base l l' /\ Y8 I M g c B base l' _ from ⟨l, HK0.out, HS.out⟩)
  clear HS
  go_wp2
  go_returns
  exact ⟨rfl, HF.out⟩
end Go.Proofs.Ytddopbbmgpnjjaa
