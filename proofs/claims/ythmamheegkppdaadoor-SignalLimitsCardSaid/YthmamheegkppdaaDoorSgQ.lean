/- SignalLimits: the message is made. -/
import Derived.Test.YthmamheegkppdaaDoorSgO
import Derived.Test.YthmamheegkppdaaDoorSgP
import Derived.Lib.SlBytesRow
namespace Go.Proofs.YthmamheegkppdaaDoor
open Go.RowKit
set_option linter.unusedSimpArgs false

theorem conv_fill {J : Img} {M : List Res} {w : World} {g n : Nat} {l : List UInt8} (hl : l.length = n) (hs : St J M w) (hb : Byts J (some ⟨g, 0, none⟩) l) :
    (convert 42 9 (.slice (some ⟨g, 0, none⟩) n n)).run Tryd.prog w = .ok (.string (bsA l)) w := by
  subst hl
  have hz : (bsA l).size = l.length := bsA_size l
  have h := Lib.run_convert_whole (P := Tryd.prog) w 42 5 9 Tryd.underlying42 Tryd.underlying5 Tryd.underlying9 g 0 (bsA l) (fun i hi => by
    have hn : i < l.length := by omega
    obtain ⟨g', o', e, hc⟩ := hb (by rw [bvs_len]; omega)
    injection e with e
    injection e with e1 e2
    subst e1 e2
    have h1 := hs.cell (hc i (by rw [bvs_len]; exact hn))
    rw [h1]
    simp [bvs, bv]
    rfl) l.length
  rw [hz] at h
  exact h
theorem filledC (I : Img) (M : List Res) (w : World) (n : Nat) (l : List UInt8) (c : UInt8) (m : Int) (hm : m = c.toNat) (hl : l = List.replicate n c) (hst : St I M w) (hn : n ≤ 10000) :
    Calls Tryd.prog 16 #[.int .i64 n, .int .u8 m] w (Ret I (fun v J M' => M' = M ∧ ∃ g, v = .slice (some ⟨g, 0, none⟩) n n ∧ Byts J (some ⟨g, 0, none⟩) l)) := by
  subst hm hl
  exact filledP I M w n c hst hn
theorem St.all {I : Img} : ∀ {M : List Res} {w : World}, St I M w → St I [] w
  | [], _, h => h
  | _ :: _, _, h => St.all h.drop
theorem cells1 {J : Img} {g : Nat} {s : ByteArray} (h : J.obj g = some (.cells #[.string s] 9 (0, 0))) : Cells J (some ⟨g, 0, none⟩) (strs [s]) := by
  intro _
  refine ⟨g, 0, rfl, fun j hj => ?_⟩
  have : j = 0 := by simp [strs] at hj; exact hj
  subst this
  simp only [Img.cell?, h]
  rfl
/-- more is held from here on -/
theorem anyH_mono {P : Program} {md : Region.Mode} {ops : Array Oper} {Q : Exit → Act → World → Prop} {S S' : World → Prop} (hS : ∀ w, S' w → S w) : ∀ (fuel : Nat) (listed : Array Bool) (a : Act) (w : World), wpAnyH P md ops Q S' fuel listed a w → wpAnyH P md ops Q S fuel listed a w
  | 0, _, _, _, h => h
  | fuel + 1, _, _, _, h => ⟨h.1, fun i hi => wpOp_mono (fun a' w' h' => ⟨hS _ h'.1, anyH_mono hS fuel _ a' w' h'.2⟩) (h.2 i hi)⟩
theorem reM {P : Program} {md : Region.Mode} {ops : Array Oper} {Q : Exit → Act → World → Prop} {I J : Img} (hl : I.le J) {fuel : Nat} {listed : Array Bool} {a : Act} {w : World} (h : wpAnyH P md ops Q (fun w' => St J [] w') fuel listed a w) : wpAnyH P md ops Q (fun w' => St I [] w') fuel listed a w :=
  anyH_mono (fun _ hw => hw.less hl) _ _ _ _ h
theorem zkL {J J2 : Img} {N : List Res} {w : World} {q g o i : Nat} {V B U : ByteArray} (h : St J N w) (hi : N[i]? = some (bk q 30 #[.string V, .slice (some ⟨g, o, none⟩) 1 1, .string B])) (hl : J2.le J) (hc : J2.cell? ⟨g, o, none⟩ = some (.string U)) :
    w.cell? ⟨q, 0, none⟩ = some (.string V) ∧ w.cell? ⟨q, 1, none⟩ = some (.slice (some ⟨g, o, none⟩) 1 1) ∧ w.cell? ⟨q, 2, none⟩ = some (.string B) ∧ w.cell? ⟨g, o, none⟩ = some (.string U) := by
  obtain ⟨c0, c1, c2, -⟩ := Blk.three (show Blk w q 30 #[.string V, .slice (some ⟨g, o, none⟩) 1 1, .string B] from h.at i hi)
  exact ⟨c0, c1, c2, h.cell (hl.cell hc)⟩
theorem info30 : (Tryd.prog.info? 30).map (·.size) = some 3 := by kernel_rfl
set_option maxRecDepth 8000 in
set_option maxHeartbeats 16000000 in
theorem law6 (I : Img) (M : List Res) (w : World) (mx : Int) (x y z : Nat) (hst : St I M w) (hm : I.cell? ⟨0, 0, none⟩ = some (.int .i64 mx)) (ht : Tab10 I) (hx : x ≤ 255) (hy : y ≤ 255) (hz : z ≤ 65535) :
    Calls Tryd.prog 6 #[.int .u8 x, .int .u8 y, .int .u16 z] w (Ret I (fun v _ _ => v = .bool true)) := by
  have HC := Lib.hid (awakeP I M w mx hst hm ht)
  obtain ⟨v, hv⟩ : ∃ v, x % 14 = v := ⟨_, rfl⟩
  have hv14 : v ≤ 13 := by omega
  obtain ⟨k, hk⟩ : ∃ k, z % 9300 = k := ⟨_, rfl⟩
  have hk93 : k ≤ 9299 := by omega
  have ev : ((x : Int) % 14) = (v : Int) := by omega
  have ek : ((z : Int) % 9300) = (k : Int) := by omega
  have HK := Lib.hid (show IntKind.i64.wrap ((z : Int).tmod 9300) = (k : Int) by
    rw [Int.tmod_eq_emod_of_nonneg (by omega), ek, IntKind.wrap_i64]
    omega)
  have ev2 : ((v : Int)) ≤ 13 := by omega
  have ek2 : ((k : Int)) ≤ 9299 := by omega
  have ey2 : ((y : Int)) ≤ 255 := by omega
  have ex2 : ((x : Int)) ≤ 255 := by omega
  have ez2 : ((z : Int)) ≤ 65535 := by omega
  obtain ⟨lv, hlv⟩ : ∃ l, l = List.replicate v (86 : UInt8) := ⟨_, rfl⟩
  obtain ⟨la, hla⟩ : ∃ l, l = List.replicate y (97 : UInt8) := ⟨_, rfl⟩
  obtain ⟨lb, hlb⟩ : ∃ l, l = List.replicate k (98 : UInt8) := ⟨_, rfl⟩
  have HV := Lib.hid hlv
  have HA := Lib.hid hla
  have HB := Lib.hid hlb
  have HM := Lib.hid (And.intro hm (And.intro hv14 (And.intro hy hk93)))
  clear hst ht hv hk hx hz hlv hla hlb hm hv14 hy hk93
  go_enter Tryd.func6, Tryd.ntmps6
  go_wp2_with fail
  go_at_call 8
  refine HC.out.mono ?_
  rintro e w1 ⟨_, J, M, rfl, hl, hs, rfl, rfl⟩
  clear HC
  have HL := Lib.hid hl
  clear hl
  go_upto_region 4 with fail
  go_cut [9] (fun p wx => ∃ (q : Nat) (A : Option Addr) (J2 : Img), p = .pointer (some ⟨q, 0, none⟩) ∧ Hid (I.le J2 ∧ St J2 (bk q 30 (msgC ⟨bsA lv, [bsA la], bsA lb⟩ (.slice A 1 1)) :: M) wx ∧ Cells J2 A (strs [bsA la])))
  case first =>
    replace hs := hs.drew
    have hle := Img.le.refl J
    refine wp_region_held_drew (S := (fun w' => St J [] w')) (by kernel_rfl) (by (try dsimp only); exact hs.all.less hle) (fun hHeld => ?_)
    generalize World.drew _ = W6 at hs hHeld ⊢
    refine wpAnyH_take (i := 0) (oi := _) (v := ?_) rfl (by kernel_rfl) (by kernel_rfl) (by kernel_rfl) (fun _ _ _ h => h) (Or.inl ⟨by rfl, ?_⟩) (by assumption) ?_
    rotate_left
    · (intro w hSw; (try dsimp only at hSw); go_simp; try with_reducible rfl)
    try simp only [Act.put, List.getElem_toArray, List.getElem_cons_zero, List.getElem_cons_succ, List.setIfInBounds_toArray, List.set_cons_zero, List.set_cons_succ]
    refine wpAnyH_take (i := 3) (oi := _) (v := ?_) rfl (by kernel_rfl) (by kernel_rfl) (by kernel_rfl) (fun _ _ _ h => h) (Or.inl ⟨by rfl, ?_⟩) (by assumption) ?_
    rotate_left
    · (intro w hSw; (try dsimp only at hSw); go_simp; try with_reducible rfl)
    try simp only [Act.put, List.getElem_toArray, List.getElem_cons_zero, List.getElem_cons_succ, List.setIfInBounds_toArray, List.set_cons_zero, List.set_cons_succ]
    refine wpAnyH_take (i := 7) (oi := _) (v := ?_) rfl (by kernel_rfl) (by kernel_rfl) (by kernel_rfl) (fun _ _ _ h => h) (Or.inl ⟨by rfl, ?_⟩) (by assumption) ?_
    rotate_left
    · (intro w hSw; (try dsimp only at hSw); go_simp; try with_reducible rfl)
    try simp only [Act.put, List.getElem_toArray, List.getElem_cons_zero, List.getElem_cons_succ, List.setIfInBounds_toArray, List.set_cons_zero, List.set_cons_succ]
    refine wpAnyH_take (i := 8) (oi := _) (v := ?_) rfl (by kernel_rfl) (by kernel_rfl) (by kernel_rfl) (fun _ _ _ h => h) (Or.inl ⟨by rfl, ?_⟩) (by assumption) ?_
    rotate_left
    · (intro w hSw; (try dsimp only at hSw); go_simp; try with_reducible rfl)
    try simp only [Act.put, List.getElem_toArray, List.getElem_cons_zero, List.getElem_cons_succ, List.setIfInBounds_toArray, List.set_cons_zero, List.set_cons_succ]
    refine wpAnyH_take (i := 9) (oi := _) (v := ?_) rfl (by kernel_rfl) (by kernel_rfl) (by kernel_rfl) (fun _ _ _ h => h) (Or.inl ⟨by rfl, ?_⟩) (by assumption) ?_
    rotate_left
    · (intro w hSw; (try dsimp only at hSw); go_simp; try with_reducible rfl)
    try simp only [Act.put, List.getElem_toArray, List.getElem_cons_zero, List.getElem_cons_succ, List.setIfInBounds_toArray, List.set_cons_zero, List.set_cons_succ]
    refine wpAnyH_ready (rs := [1, 13]) (by kernel_rfl) (by simp) ?_
    refine (AllReadyH.cons (o := _) rfl (fun K hK => ?_) (AllReadyH.cons (o := _) rfl (fun K hK => ?_) AllReadyH.nil))
    · skip
      go_simp
      refine (filledC J _ _ v lv 86 86 rfl HV.out hs (by have := HM.out.2; omega)).mono ?_
      clear hs
      rintro e w7 ⟨_, J, M, rfl, hle, hs, rfl, gx, rfl, hb1⟩
      try clear hHeld
      refine hK.out _ _ (by (try dsimp only); exact hs.all.less hle) (fun hHeld => ?_)
      clear hK K
      try simp only [Act.put, List.getElem_toArray, List.getElem_cons_zero, List.getElem_cons_succ, List.setIfInBounds_toArray, List.set_cons_zero, List.set_cons_succ]
      refine reM hle ?_
      clear hHeld
      have hHeld := hs.all
      replace HL := Lib.hid (HL.out.trans hle)
      try replace hb2 := hb2.mono hle
      try replace hb3 := hb3.mono hle
      try replace hA := hA.mono hle
      refine wpAnyH_take (i := 2) (oi := _) (v := ?_) rfl (by kernel_rfl) (by kernel_rfl) (by kernel_rfl) (fun _ _ _ h => h) (Or.inl ⟨by rfl, ?_⟩) (by assumption) ?_
      rotate_left
      · (intro w hSw; (try dsimp only at hSw); go_simp; rw [conv_fill (n := v) (by rw [HV.out]; simp) hSw hb1]; rfl)
      try simp only [Act.put, List.getElem_toArray, List.getElem_cons_zero, List.getElem_cons_succ, List.setIfInBounds_toArray, List.set_cons_zero, List.set_cons_succ]
      refine wpAnyH_ready (rs := [4, 13]) (by kernel_rfl) (by simp) ?_
      refine (AllReadyH.cons (o := _) rfl (fun K hK => ?_) (AllReadyH.cons (o := _) rfl (fun K hK => ?_) AllReadyH.nil))
      · skip
        go_simp
        refine (filledC J _ _ y la 97 97 rfl HA.out hs (by have := HM.out.2; omega)).mono ?_
        clear hs
        rintro e w7 ⟨_, J, M, rfl, hle, hs, rfl, gx, rfl, hb2⟩
        try clear hHeld
        refine hK.out _ _ (by (try dsimp only); exact hs.all.less hle) (fun hHeld => ?_)
        clear hK K
        try simp only [Act.put, List.getElem_toArray, List.getElem_cons_zero, List.getElem_cons_succ, List.setIfInBounds_toArray, List.set_cons_zero, List.set_cons_succ]
        refine reM hle ?_
        clear hHeld
        have hHeld := hs.all
        replace HL := Lib.hid (HL.out.trans hle)
        try replace hb1 := hb1.mono hle
        try replace hb3 := hb3.mono hle
        try replace hA := hA.mono hle
        refine wpAnyH_take (i := 5) (oi := _) (v := ?_) rfl (by kernel_rfl) (by kernel_rfl) (by kernel_rfl) (fun _ _ _ h => h) (Or.inl ⟨by rfl, ?_⟩) (by assumption) ?_
        rotate_left
        · (intro w hSw; (try dsimp only at hSw); go_simp; rw [conv_fill (n := y) (by rw [HA.out]; simp) hSw hb2]; rfl)
        try simp only [Act.put, List.getElem_toArray, List.getElem_cons_zero, List.getElem_cons_succ, List.setIfInBounds_toArray, List.set_cons_zero, List.set_cons_succ]
        refine wpAnyH_ready (rs := [6, 10, 13]) (by kernel_rfl) (by simp) ?_
        refine (AllReadyH.cons (o := _) rfl (fun K hK => ?_) (AllReadyH.cons (o := _) rfl (fun K hK => ?_) (AllReadyH.cons (o := _) rfl (fun K hK => ?_) AllReadyH.nil)))
        · skip
          go_simp
          have hq := hs.allocF 9 #[.string (bsA la)]
          clear hs
          obtain ⟨J, hle, hs, ho⟩ := hq
          generalize World.alloc _ _ = W at hs ⊢
          generalize Array.size (World.heap _) = q2 at hs ho ⊢
          have hA := cells1 ho
          clear ho
          try clear hHeld
          refine hK.out _ _ (by (try dsimp only); exact hs.all.less hle) (fun hHeld => ?_)
          clear hK K
          try simp only [Act.put, List.getElem_toArray, List.getElem_cons_zero, List.getElem_cons_succ, List.setIfInBounds_toArray, List.set_cons_zero, List.set_cons_succ]
          refine reM hle ?_
          clear hHeld
          have hHeld := hs.all
          replace HL := Lib.hid (HL.out.trans hle)
          try replace hb1 := hb1.mono hle
          try replace hb2 := hb2.mono hle
          try replace hb3 := hb3.mono hle
          refine wpAnyH_ready (rs := [10, 13]) (by kernel_rfl) (by simp) ?_
          refine (AllReadyH.cons (o := _) rfl (fun K hK => ?_) (AllReadyH.cons (o := _) rfl (fun K hK => ?_) AllReadyH.nil))
          · skip
            go_simp
            rw [HK.out]
            refine (filledC J _ _ k lb 98 98 rfl HB.out hs (by have := HM.out.2; omega)).mono ?_
            clear hs
            rintro e w7 ⟨_, J, M, rfl, hle, hs, rfl, gx, rfl, hb3⟩
            try clear hHeld
            refine hK.out _ _ (by (try dsimp only); exact hs.all.less hle) (fun hHeld => ?_)
            clear hK K
            try simp only [Act.put, List.getElem_toArray, List.getElem_cons_zero, List.getElem_cons_succ, List.setIfInBounds_toArray, List.set_cons_zero, List.set_cons_succ]
            refine reM hle ?_
            clear hHeld
            have hHeld := hs.all
            replace HL := Lib.hid (HL.out.trans hle)
            try replace hb1 := hb1.mono hle
            try replace hb2 := hb2.mono hle
            try replace hA := hA.mono hle
            refine wpAnyH_take (i := 11) (oi := _) (v := ?_) rfl (by kernel_rfl) (by kernel_rfl) (by kernel_rfl) (fun _ _ _ h => h) (Or.inl ⟨by rfl, ?_⟩) (by assumption) ?_
            rotate_left
            · (intro w hSw; (try dsimp only at hSw); go_simp; rw [conv_fill (n := k) (by rw [HB.out]; simp) hSw hb3]; rfl)
            try simp only [Act.put, List.getElem_toArray, List.getElem_cons_zero, List.getElem_cons_succ, List.setIfInBounds_toArray, List.set_cons_zero, List.set_cons_succ]
            refine wpAnyH_take (i := 12) (oi := _) (v := ?_) rfl (by kernel_rfl) (by kernel_rfl) (by kernel_rfl) (fun _ _ _ h => h) (Or.inl ⟨by rfl, ?_⟩) (by assumption) ?_
            rotate_left
            · (intro w hSw; (try dsimp only at hSw); go_simp; try with_reducible rfl)
            try simp only [Act.put, List.getElem_toArray, List.getElem_cons_zero, List.getElem_cons_succ, List.setIfInBounds_toArray, List.set_cons_zero, List.set_cons_succ]
            refine wpAnyH_ready (rs := [13]) (by kernel_rfl) (by simp) ?_
            refine (AllReadyH.cons (o := _) rfl (fun K hK => ?_) AllReadyH.nil)
            go_simp
            replace hs := hs.alloc 30 zeroM
            change St J _ (World.alloc _ (.cells #[.string ⟨#[]⟩, .slice none 0 0, .string ⟨#[]⟩] 30)) at hs
            generalize World.alloc _ _ = W at hs ⊢
            generalize Array.size (World.heap _) = q at hs ⊢
            have hle := Img.le.refl J
            try clear hHeld
            refine hK.out _ _ (by (try dsimp only); exact hs.all.less hle) (fun hHeld => ?_)
            clear hK K
            try simp only [Act.put, List.getElem_toArray, List.getElem_cons_zero, List.getElem_cons_succ, List.setIfInBounds_toArray, List.set_cons_zero, List.set_cons_succ]
            refine wpAnyH_ready (rs := [14]) (by kernel_rfl) (by simp) ?_
            refine (AllReadyH.cons (o := _) rfl (fun K hK => ?_) AllReadyH.nil)
            refine step_store_row (by rfl) 30 _ _ (by rfl) q #[.string (bsA lv), .slice (some ⟨q2, 0, none⟩) 1 1, .string (bsA lb)] (by rfl) (by rfl) 30 _ hs.head info30 rfl (by simp [Value.oneCell']) ?_
            replace hs := hs.setR #[.string (bsA lv), .slice (some ⟨q2, 0, none⟩) 1 1, .string (bsA lb)]
            generalize World.setRow _ _ _ = W at hs ⊢
            have hle := Img.le.refl J
            try clear hHeld
            refine hK.out _ _ (by (try dsimp only); exact hs.all.less hle) (fun hHeld => ?_)
            clear hK K
            try simp only [Act.put, List.getElem_toArray, List.getElem_cons_zero, List.getElem_cons_succ, List.setIfInBounds_toArray, List.set_cons_zero, List.set_cons_succ]
            refine wpAnyH_done (by kernel_rfl) ?_ _
            go_wp2
            go_meet
            exact ⟨q, _, J, rfl, Lib.hid ⟨HL.out, hs, hA⟩⟩
          · skip
            go_simp
            replace hs := hs.alloc 30 zeroM
            change St J _ (World.alloc _ (.cells #[.string ⟨#[]⟩, .slice none 0 0, .string ⟨#[]⟩] 30)) at hs
            generalize World.alloc _ _ = W at hs ⊢
            generalize Array.size (World.heap _) = q at hs ⊢
            have hle := Img.le.refl J
            try clear hHeld
            refine hK.out _ _ (by (try dsimp only); exact hs.all.less hle) (fun hHeld => ?_)
            clear hK K
            try simp only [Act.put, List.getElem_toArray, List.getElem_cons_zero, List.getElem_cons_succ, List.setIfInBounds_toArray, List.set_cons_zero, List.set_cons_succ]
            refine wpAnyH_ready (rs := [10]) (by kernel_rfl) (by simp) ?_
            refine (AllReadyH.cons (o := _) rfl (fun K hK => ?_) AllReadyH.nil)
            go_simp
            rw [HK.out]
            refine (filledC J _ _ k lb 98 98 rfl HB.out hs (by have := HM.out.2; omega)).mono ?_
            clear hs
            rintro e w7 ⟨_, J, M, rfl, hle, hs, rfl, gx, rfl, hb3⟩
            try clear hHeld
            refine hK.out _ _ (by (try dsimp only); exact hs.all.less hle) (fun hHeld => ?_)
            clear hK K
            try simp only [Act.put, List.getElem_toArray, List.getElem_cons_zero, List.getElem_cons_succ, List.setIfInBounds_toArray, List.set_cons_zero, List.set_cons_succ]
            refine reM hle ?_
            clear hHeld
            have hHeld := hs.all
            replace HL := Lib.hid (HL.out.trans hle)
            try replace hb1 := hb1.mono hle
            try replace hb2 := hb2.mono hle
            try replace hA := hA.mono hle
            refine wpAnyH_take (i := 11) (oi := _) (v := ?_) rfl (by kernel_rfl) (by kernel_rfl) (by kernel_rfl) (fun _ _ _ h => h) (Or.inl ⟨by rfl, ?_⟩) (by assumption) ?_
            rotate_left
            · (intro w hSw; (try dsimp only at hSw); go_simp; rw [conv_fill (n := k) (by rw [HB.out]; simp) hSw hb3]; rfl)
            try simp only [Act.put, List.getElem_toArray, List.getElem_cons_zero, List.getElem_cons_succ, List.setIfInBounds_toArray, List.set_cons_zero, List.set_cons_succ]
            refine wpAnyH_take (i := 12) (oi := _) (v := ?_) rfl (by kernel_rfl) (by kernel_rfl) (by kernel_rfl) (fun _ _ _ h => h) (Or.inl ⟨by rfl, ?_⟩) (by assumption) ?_
            rotate_left
            · (intro w hSw; (try dsimp only at hSw); go_simp; try with_reducible rfl)
            try simp only [Act.put, List.getElem_toArray, List.getElem_cons_zero, List.getElem_cons_succ, List.setIfInBounds_toArray, List.set_cons_zero, List.set_cons_succ]
            refine wpAnyH_ready (rs := [14]) (by kernel_rfl) (by simp) ?_
            refine (AllReadyH.cons (o := _) rfl (fun K hK => ?_) AllReadyH.nil)
            refine step_store_row (by rfl) 30 _ _ (by rfl) q #[.string (bsA lv), .slice (some ⟨q2, 0, none⟩) 1 1, .string (bsA lb)] (by rfl) (by rfl) 30 _ hs.head info30 rfl (by simp [Value.oneCell']) ?_
            replace hs := hs.setR #[.string (bsA lv), .slice (some ⟨q2, 0, none⟩) 1 1, .string (bsA lb)]
            generalize World.setRow _ _ _ = W at hs ⊢
            have hle := Img.le.refl J
            try clear hHeld
            refine hK.out _ _ (by (try dsimp only); exact hs.all.less hle) (fun hHeld => ?_)
            clear hK K
            try simp only [Act.put, List.getElem_toArray, List.getElem_cons_zero, List.getElem_cons_succ, List.setIfInBounds_toArray, List.set_cons_zero, List.set_cons_succ]
            refine wpAnyH_done (by kernel_rfl) ?_ _
            go_wp2
            go_meet
            exact ⟨q, _, J, rfl, Lib.hid ⟨HL.out, hs, hA⟩⟩
        · skip
          go_simp
          rw [HK.out]
          refine (filledC J _ _ k lb 98 98 rfl HB.out hs (by have := HM.out.2; omega)).mono ?_
          clear hs
          rintro e w7 ⟨_, J, M, rfl, hle, hs, rfl, gx, rfl, hb3⟩
          try clear hHeld
          refine hK.out _ _ (by (try dsimp only); exact hs.all.less hle) (fun hHeld => ?_)
          clear hK K
          try simp only [Act.put, List.getElem_toArray, List.getElem_cons_zero, List.getElem_cons_succ, List.setIfInBounds_toArray, List.set_cons_zero, List.set_cons_succ]
          refine reM hle ?_
          clear hHeld
          have hHeld := hs.all
          replace HL := Lib.hid (HL.out.trans hle)
          try replace hb1 := hb1.mono hle
          try replace hb2 := hb2.mono hle
          try replace hA := hA.mono hle
          refine wpAnyH_take (i := 11) (oi := _) (v := ?_) rfl (by kernel_rfl) (by kernel_rfl) (by kernel_rfl) (fun _ _ _ h => h) (Or.inl ⟨by rfl, ?_⟩) (by assumption) ?_
          rotate_left
          · (intro w hSw; (try dsimp only at hSw); go_simp; rw [conv_fill (n := k) (by rw [HB.out]; simp) hSw hb3]; rfl)
          try simp only [Act.put, List.getElem_toArray, List.getElem_cons_zero, List.getElem_cons_succ, List.setIfInBounds_toArray, List.set_cons_zero, List.set_cons_succ]
          refine wpAnyH_ready (rs := [6, 13]) (by kernel_rfl) (by simp) ?_
          refine (AllReadyH.cons (o := _) rfl (fun K hK => ?_) (AllReadyH.cons (o := _) rfl (fun K hK => ?_) AllReadyH.nil))
          · skip
            go_simp
            have hq := hs.allocF 9 #[.string (bsA la)]
            clear hs
            obtain ⟨J, hle, hs, ho⟩ := hq
            generalize World.alloc _ _ = W at hs ⊢
            generalize Array.size (World.heap _) = q2 at hs ho ⊢
            have hA := cells1 ho
            clear ho
            try clear hHeld
            refine hK.out _ _ (by (try dsimp only); exact hs.all.less hle) (fun hHeld => ?_)
            clear hK K
            try simp only [Act.put, List.getElem_toArray, List.getElem_cons_zero, List.getElem_cons_succ, List.setIfInBounds_toArray, List.set_cons_zero, List.set_cons_succ]
            refine reM hle ?_
            clear hHeld
            have hHeld := hs.all
            replace HL := Lib.hid (HL.out.trans hle)
            try replace hb1 := hb1.mono hle
            try replace hb2 := hb2.mono hle
            try replace hb3 := hb3.mono hle
            refine wpAnyH_take (i := 12) (oi := _) (v := ?_) rfl (by kernel_rfl) (by kernel_rfl) (by kernel_rfl) (fun _ _ _ h => h) (Or.inl ⟨by rfl, ?_⟩) (by assumption) ?_
            rotate_left
            · (intro w hSw; (try dsimp only at hSw); go_simp; try with_reducible rfl)
            try simp only [Act.put, List.getElem_toArray, List.getElem_cons_zero, List.getElem_cons_succ, List.setIfInBounds_toArray, List.set_cons_zero, List.set_cons_succ]
            refine wpAnyH_ready (rs := [13]) (by kernel_rfl) (by simp) ?_
            refine (AllReadyH.cons (o := _) rfl (fun K hK => ?_) AllReadyH.nil)
            go_simp
            replace hs := hs.alloc 30 zeroM
            change St J _ (World.alloc _ (.cells #[.string ⟨#[]⟩, .slice none 0 0, .string ⟨#[]⟩] 30)) at hs
            generalize World.alloc _ _ = W at hs ⊢
            generalize Array.size (World.heap _) = q at hs ⊢
            have hle := Img.le.refl J
            try clear hHeld
            refine hK.out _ _ (by (try dsimp only); exact hs.all.less hle) (fun hHeld => ?_)
            clear hK K
            try simp only [Act.put, List.getElem_toArray, List.getElem_cons_zero, List.getElem_cons_succ, List.setIfInBounds_toArray, List.set_cons_zero, List.set_cons_succ]
            refine wpAnyH_ready (rs := [14]) (by kernel_rfl) (by simp) ?_
            refine (AllReadyH.cons (o := _) rfl (fun K hK => ?_) AllReadyH.nil)
            refine step_store_row (by rfl) 30 _ _ (by rfl) q #[.string (bsA lv), .slice (some ⟨q2, 0, none⟩) 1 1, .string (bsA lb)] (by rfl) (by rfl) 30 _ hs.head info30 rfl (by simp [Value.oneCell']) ?_
            replace hs := hs.setR #[.string (bsA lv), .slice (some ⟨q2, 0, none⟩) 1 1, .string (bsA lb)]
            generalize World.setRow _ _ _ = W at hs ⊢
            have hle := Img.le.refl J
            try clear hHeld
            refine hK.out _ _ (by (try dsimp only); exact hs.all.less hle) (fun hHeld => ?_)
            clear hK K
            try simp only [Act.put, List.getElem_toArray, List.getElem_cons_zero, List.getElem_cons_succ, List.setIfInBounds_toArray, List.set_cons_zero, List.set_cons_succ]
            refine wpAnyH_done (by kernel_rfl) ?_ _
            go_wp2
            go_meet
            exact ⟨q, _, J, rfl, Lib.hid ⟨HL.out, hs, hA⟩⟩
          · skip
            go_simp
            replace hs := hs.alloc 30 zeroM
            change St J _ (World.alloc _ (.cells #[.string ⟨#[]⟩, .slice none 0 0, .string ⟨#[]⟩] 30)) at hs
            generalize World.alloc _ _ = W at hs ⊢
            generalize Array.size (World.heap _) = q at hs ⊢
            have hle := Img.le.refl J
            try clear hHeld
            refine hK.out _ _ (by (try dsimp only); exact hs.all.less hle) (fun hHeld => ?_)
            clear hK K
            try simp only [Act.put, List.getElem_toArray, List.getElem_cons_zero, List.getElem_cons_succ, List.setIfInBounds_toArray, List.set_cons_zero, List.set_cons_succ]
            refine wpAnyH_ready (rs := [6]) (by kernel_rfl) (by simp) ?_
            refine (AllReadyH.cons (o := _) rfl (fun K hK => ?_) AllReadyH.nil)
            go_simp
            have hq := hs.allocF 9 #[.string (bsA la)]
            clear hs
            obtain ⟨J, hle, hs, ho⟩ := hq
            generalize World.alloc _ _ = W at hs ⊢
            generalize Array.size (World.heap _) = q2 at hs ho ⊢
            have hA := cells1 ho
            clear ho
            try clear hHeld
            refine hK.out _ _ (by (try dsimp only); exact hs.all.less hle) (fun hHeld => ?_)
            clear hK K
            try simp only [Act.put, List.getElem_toArray, List.getElem_cons_zero, List.getElem_cons_succ, List.setIfInBounds_toArray, List.set_cons_zero, List.set_cons_succ]
            refine reM hle ?_
            clear hHeld
            have hHeld := hs.all
            replace HL := Lib.hid (HL.out.trans hle)
            try replace hb1 := hb1.mono hle
            try replace hb2 := hb2.mono hle
            try replace hb3 := hb3.mono hle
            refine wpAnyH_take (i := 12) (oi := _) (v := ?_) rfl (by kernel_rfl) (by kernel_rfl) (by kernel_rfl) (fun _ _ _ h => h) (Or.inl ⟨by rfl, ?_⟩) (by assumption) ?_
            rotate_left
            · (intro w hSw; (try dsimp only at hSw); go_simp; try with_reducible rfl)
            try simp only [Act.put, List.getElem_toArray, List.getElem_cons_zero, List.getElem_cons_succ, List.setIfInBounds_toArray, List.set_cons_zero, List.set_cons_succ]
            refine wpAnyH_ready (rs := [14]) (by kernel_rfl) (by simp) ?_
            refine (AllReadyH.cons (o := _) rfl (fun K hK => ?_) AllReadyH.nil)
            refine step_store_row (by rfl) 30 _ _ (by rfl) q #[.string (bsA lv), .slice (some ⟨q2, 0, none⟩) 1 1, .string (bsA lb)] (by rfl) (by rfl) 30 _ hs.head info30 rfl (by simp [Value.oneCell']) ?_
            replace hs := hs.setR #[.string (bsA lv), .slice (some ⟨q2, 0, none⟩) 1 1, .string (bsA lb)]
            generalize World.setRow _ _ _ = W at hs ⊢
            have hle := Img.le.refl J
            try clear hHeld
            refine hK.out _ _ (by (try dsimp only); exact hs.all.less hle) (fun hHeld => ?_)
            clear hK K
            try simp only [Act.put, List.getElem_toArray, List.getElem_cons_zero, List.getElem_cons_succ, List.setIfInBounds_toArray, List.set_cons_zero, List.set_cons_succ]
            refine wpAnyH_done (by kernel_rfl) ?_ _
            go_wp2
            go_meet
            exact ⟨q, _, J, rfl, Lib.hid ⟨HL.out, hs, hA⟩⟩
        · skip
          go_simp
          replace hs := hs.alloc 30 zeroM
          change St J _ (World.alloc _ (.cells #[.string ⟨#[]⟩, .slice none 0 0, .string ⟨#[]⟩] 30)) at hs
          generalize World.alloc _ _ = W at hs ⊢
          generalize Array.size (World.heap _) = q at hs ⊢
          have hle := Img.le.refl J
          try clear hHeld
          refine hK.out _ _ (by (try dsimp only); exact hs.all.less hle) (fun hHeld => ?_)
          clear hK K
          try simp only [Act.put, List.getElem_toArray, List.getElem_cons_zero, List.getElem_cons_succ, List.setIfInBounds_toArray, List.set_cons_zero, List.set_cons_succ]
          refine wpAnyH_ready (rs := [6, 10]) (by kernel_rfl) (by simp) ?_
          refine (AllReadyH.cons (o := _) rfl (fun K hK => ?_) (AllReadyH.cons (o := _) rfl (fun K hK => ?_) AllReadyH.nil))
          · skip
            go_simp
            have hq := hs.allocF 9 #[.string (bsA la)]
            clear hs
            obtain ⟨J, hle, hs, ho⟩ := hq
            generalize World.alloc _ _ = W at hs ⊢
            generalize Array.size (World.heap _) = q2 at hs ho ⊢
            have hA := cells1 ho
            clear ho
            try clear hHeld
            refine hK.out _ _ (by (try dsimp only); exact hs.all.less hle) (fun hHeld => ?_)
            clear hK K
            try simp only [Act.put, List.getElem_toArray, List.getElem_cons_zero, List.getElem_cons_succ, List.setIfInBounds_toArray, List.set_cons_zero, List.set_cons_succ]
            refine reM hle ?_
            clear hHeld
            have hHeld := hs.all
            replace HL := Lib.hid (HL.out.trans hle)
            try replace hb1 := hb1.mono hle
            try replace hb2 := hb2.mono hle
            try replace hb3 := hb3.mono hle
            refine wpAnyH_ready (rs := [10]) (by kernel_rfl) (by simp) ?_
            refine (AllReadyH.cons (o := _) rfl (fun K hK => ?_) AllReadyH.nil)
            go_simp
            rw [HK.out]
            refine (filledC J _ _ k lb 98 98 rfl HB.out hs (by have := HM.out.2; omega)).mono ?_
            clear hs
            rintro e w7 ⟨_, J, M, rfl, hle, hs, rfl, gx, rfl, hb3⟩
            try clear hHeld
            refine hK.out _ _ (by (try dsimp only); exact hs.all.less hle) (fun hHeld => ?_)
            clear hK K
            try simp only [Act.put, List.getElem_toArray, List.getElem_cons_zero, List.getElem_cons_succ, List.setIfInBounds_toArray, List.set_cons_zero, List.set_cons_succ]
            refine reM hle ?_
            clear hHeld
            have hHeld := hs.all
            replace HL := Lib.hid (HL.out.trans hle)
            try replace hb1 := hb1.mono hle
            try replace hb2 := hb2.mono hle
            try replace hA := hA.mono hle
            refine wpAnyH_take (i := 11) (oi := _) (v := ?_) rfl (by kernel_rfl) (by kernel_rfl) (by kernel_rfl) (fun _ _ _ h => h) (Or.inl ⟨by rfl, ?_⟩) (by assumption) ?_
            rotate_left
            · (intro w hSw; (try dsimp only at hSw); go_simp; rw [conv_fill (n := k) (by rw [HB.out]; simp) hSw hb3]; rfl)
            try simp only [Act.put, List.getElem_toArray, List.getElem_cons_zero, List.getElem_cons_succ, List.setIfInBounds_toArray, List.set_cons_zero, List.set_cons_succ]
            refine wpAnyH_take (i := 12) (oi := _) (v := ?_) rfl (by kernel_rfl) (by kernel_rfl) (by kernel_rfl) (fun _ _ _ h => h) (Or.inl ⟨by rfl, ?_⟩) (by assumption) ?_
            rotate_left
            · (intro w hSw; (try dsimp only at hSw); go_simp; try with_reducible rfl)
            try simp only [Act.put, List.getElem_toArray, List.getElem_cons_zero, List.getElem_cons_succ, List.setIfInBounds_toArray, List.set_cons_zero, List.set_cons_succ]
            refine wpAnyH_ready (rs := [14]) (by kernel_rfl) (by simp) ?_
            refine (AllReadyH.cons (o := _) rfl (fun K hK => ?_) AllReadyH.nil)
            refine step_store_row (by rfl) 30 _ _ (by rfl) q #[.string (bsA lv), .slice (some ⟨q2, 0, none⟩) 1 1, .string (bsA lb)] (by rfl) (by rfl) 30 _ hs.head info30 rfl (by simp [Value.oneCell']) ?_
            replace hs := hs.setR #[.string (bsA lv), .slice (some ⟨q2, 0, none⟩) 1 1, .string (bsA lb)]
            generalize World.setRow _ _ _ = W at hs ⊢
            have hle := Img.le.refl J
            try clear hHeld
            refine hK.out _ _ (by (try dsimp only); exact hs.all.less hle) (fun hHeld => ?_)
            clear hK K
            try simp only [Act.put, List.getElem_toArray, List.getElem_cons_zero, List.getElem_cons_succ, List.setIfInBounds_toArray, List.set_cons_zero, List.set_cons_succ]
            refine wpAnyH_done (by kernel_rfl) ?_ _
            go_wp2
            go_meet
            exact ⟨q, _, J, rfl, Lib.hid ⟨HL.out, hs, hA⟩⟩
          · skip
            go_simp
            rw [HK.out]
            refine (filledC J _ _ k lb 98 98 rfl HB.out hs (by have := HM.out.2; omega)).mono ?_
            clear hs
            rintro e w7 ⟨_, J, M, rfl, hle, hs, rfl, gx, rfl, hb3⟩
            try clear hHeld
            refine hK.out _ _ (by (try dsimp only); exact hs.all.less hle) (fun hHeld => ?_)
            clear hK K
            try simp only [Act.put, List.getElem_toArray, List.getElem_cons_zero, List.getElem_cons_succ, List.setIfInBounds_toArray, List.set_cons_zero, List.set_cons_succ]
            refine reM hle ?_
            clear hHeld
            have hHeld := hs.all
            replace HL := Lib.hid (HL.out.trans hle)
            try replace hb1 := hb1.mono hle
            try replace hb2 := hb2.mono hle
            try replace hA := hA.mono hle
            refine wpAnyH_take (i := 11) (oi := _) (v := ?_) rfl (by kernel_rfl) (by kernel_rfl) (by kernel_rfl) (fun _ _ _ h => h) (Or.inl ⟨by rfl, ?_⟩) (by assumption) ?_
            rotate_left
            · (intro w hSw; (try dsimp only at hSw); go_simp; rw [conv_fill (n := k) (by rw [HB.out]; simp) hSw hb3]; rfl)
            try simp only [Act.put, List.getElem_toArray, List.getElem_cons_zero, List.getElem_cons_succ, List.setIfInBounds_toArray, List.set_cons_zero, List.set_cons_succ]
            refine wpAnyH_ready (rs := [6]) (by kernel_rfl) (by simp) ?_
            refine (AllReadyH.cons (o := _) rfl (fun K hK => ?_) AllReadyH.nil)
            go_simp
            have hq := hs.allocF 9 #[.string (bsA la)]
            clear hs
            obtain ⟨J, hle, hs, ho⟩ := hq
            generalize World.alloc _ _ = W at hs ⊢
            generalize Array.size (World.heap _) = q2 at hs ho ⊢
            have hA := cells1 ho
            clear ho
            try clear hHeld
            refine hK.out _ _ (by (try dsimp only); exact hs.all.less hle) (fun hHeld => ?_)
            clear hK K
            try simp only [Act.put, List.getElem_toArray, List.getElem_cons_zero, List.getElem_cons_succ, List.setIfInBounds_toArray, List.set_cons_zero, List.set_cons_succ]
            refine reM hle ?_
            clear hHeld
            have hHeld := hs.all
            replace HL := Lib.hid (HL.out.trans hle)
            try replace hb1 := hb1.mono hle
            try replace hb2 := hb2.mono hle
            try replace hb3 := hb3.mono hle
            refine wpAnyH_take (i := 12) (oi := _) (v := ?_) rfl (by kernel_rfl) (by kernel_rfl) (by kernel_rfl) (fun _ _ _ h => h) (Or.inl ⟨by rfl, ?_⟩) (by assumption) ?_
            rotate_left
            · (intro w hSw; (try dsimp only at hSw); go_simp; try with_reducible rfl)
            try simp only [Act.put, List.getElem_toArray, List.getElem_cons_zero, List.getElem_cons_succ, List.setIfInBounds_toArray, List.set_cons_zero, List.set_cons_succ]
            refine wpAnyH_ready (rs := [14]) (by kernel_rfl) (by simp) ?_
            refine (AllReadyH.cons (o := _) rfl (fun K hK => ?_) AllReadyH.nil)
            refine step_store_row (by rfl) 30 _ _ (by rfl) q #[.string (bsA lv), .slice (some ⟨q2, 0, none⟩) 1 1, .string (bsA lb)] (by rfl) (by rfl) 30 _ hs.head info30 rfl (by simp [Value.oneCell']) ?_
            replace hs := hs.setR #[.string (bsA lv), .slice (some ⟨q2, 0, none⟩) 1 1, .string (bsA lb)]
            generalize World.setRow _ _ _ = W at hs ⊢
            have hle := Img.le.refl J
            try clear hHeld
            refine hK.out _ _ (by (try dsimp only); exact hs.all.less hle) (fun hHeld => ?_)
            clear hK K
            try simp only [Act.put, List.getElem_toArray, List.getElem_cons_zero, List.getElem_cons_succ, List.setIfInBounds_toArray, List.set_cons_zero, List.set_cons_succ]
            refine wpAnyH_done (by kernel_rfl) ?_ _
            go_wp2
            go_meet
            exact ⟨q, _, J, rfl, Lib.hid ⟨HL.out, hs, hA⟩⟩
      · skip
        go_simp
        replace hs := hs.alloc 30 zeroM
        change St J _ (World.alloc _ (.cells #[.string ⟨#[]⟩, .slice none 0 0, .string ⟨#[]⟩] 30)) at hs
        generalize World.alloc _ _ = W at hs ⊢
        generalize Array.size (World.heap _) = q at hs ⊢
        have hle := Img.le.refl J
        try clear hHeld
        refine hK.out _ _ (by (try dsimp only); exact hs.all.less hle) (fun hHeld => ?_)
        clear hK K
        try simp only [Act.put, List.getElem_toArray, List.getElem_cons_zero, List.getElem_cons_succ, List.setIfInBounds_toArray, List.set_cons_zero, List.set_cons_succ]
        refine wpAnyH_ready (rs := [4]) (by kernel_rfl) (by simp) ?_
        refine (AllReadyH.cons (o := _) rfl (fun K hK => ?_) AllReadyH.nil)
        go_simp
        refine (filledC J _ _ y la 97 97 rfl HA.out hs (by have := HM.out.2; omega)).mono ?_
        clear hs
        rintro e w7 ⟨_, J, M, rfl, hle, hs, rfl, gx, rfl, hb2⟩
        try clear hHeld
        refine hK.out _ _ (by (try dsimp only); exact hs.all.less hle) (fun hHeld => ?_)
        clear hK K
        try simp only [Act.put, List.getElem_toArray, List.getElem_cons_zero, List.getElem_cons_succ, List.setIfInBounds_toArray, List.set_cons_zero, List.set_cons_succ]
        refine reM hle ?_
        clear hHeld
        have hHeld := hs.all
        replace HL := Lib.hid (HL.out.trans hle)
        try replace hb1 := hb1.mono hle
        try replace hb3 := hb3.mono hle
        try replace hA := hA.mono hle
        refine wpAnyH_take (i := 5) (oi := _) (v := ?_) rfl (by kernel_rfl) (by kernel_rfl) (by kernel_rfl) (fun _ _ _ h => h) (Or.inl ⟨by rfl, ?_⟩) (by assumption) ?_
        rotate_left
        · (intro w hSw; (try dsimp only at hSw); go_simp; rw [conv_fill (n := y) (by rw [HA.out]; simp) hSw hb2]; rfl)
        try simp only [Act.put, List.getElem_toArray, List.getElem_cons_zero, List.getElem_cons_succ, List.setIfInBounds_toArray, List.set_cons_zero, List.set_cons_succ]
        refine wpAnyH_ready (rs := [6, 10]) (by kernel_rfl) (by simp) ?_
        refine (AllReadyH.cons (o := _) rfl (fun K hK => ?_) (AllReadyH.cons (o := _) rfl (fun K hK => ?_) AllReadyH.nil))
        · skip
          go_simp
          have hq := hs.allocF 9 #[.string (bsA la)]
          clear hs
          obtain ⟨J, hle, hs, ho⟩ := hq
          generalize World.alloc _ _ = W at hs ⊢
          generalize Array.size (World.heap _) = q2 at hs ho ⊢
          have hA := cells1 ho
          clear ho
          try clear hHeld
          refine hK.out _ _ (by (try dsimp only); exact hs.all.less hle) (fun hHeld => ?_)
          clear hK K
          try simp only [Act.put, List.getElem_toArray, List.getElem_cons_zero, List.getElem_cons_succ, List.setIfInBounds_toArray, List.set_cons_zero, List.set_cons_succ]
          refine reM hle ?_
          clear hHeld
          have hHeld := hs.all
          replace HL := Lib.hid (HL.out.trans hle)
          try replace hb1 := hb1.mono hle
          try replace hb2 := hb2.mono hle
          try replace hb3 := hb3.mono hle
          refine wpAnyH_ready (rs := [10]) (by kernel_rfl) (by simp) ?_
          refine (AllReadyH.cons (o := _) rfl (fun K hK => ?_) AllReadyH.nil)
          go_simp
          rw [HK.out]
          refine (filledC J _ _ k lb 98 98 rfl HB.out hs (by have := HM.out.2; omega)).mono ?_
          clear hs
          rintro e w7 ⟨_, J, M, rfl, hle, hs, rfl, gx, rfl, hb3⟩
          try clear hHeld
          refine hK.out _ _ (by (try dsimp only); exact hs.all.less hle) (fun hHeld => ?_)
          clear hK K
          try simp only [Act.put, List.getElem_toArray, List.getElem_cons_zero, List.getElem_cons_succ, List.setIfInBounds_toArray, List.set_cons_zero, List.set_cons_succ]
          refine reM hle ?_
          clear hHeld
          have hHeld := hs.all
          replace HL := Lib.hid (HL.out.trans hle)
          try replace hb1 := hb1.mono hle
          try replace hb2 := hb2.mono hle
          try replace hA := hA.mono hle
          refine wpAnyH_take (i := 11) (oi := _) (v := ?_) rfl (by kernel_rfl) (by kernel_rfl) (by kernel_rfl) (fun _ _ _ h => h) (Or.inl ⟨by rfl, ?_⟩) (by assumption) ?_
          rotate_left
          · (intro w hSw; (try dsimp only at hSw); go_simp; rw [conv_fill (n := k) (by rw [HB.out]; simp) hSw hb3]; rfl)
          try simp only [Act.put, List.getElem_toArray, List.getElem_cons_zero, List.getElem_cons_succ, List.setIfInBounds_toArray, List.set_cons_zero, List.set_cons_succ]
          refine wpAnyH_take (i := 12) (oi := _) (v := ?_) rfl (by kernel_rfl) (by kernel_rfl) (by kernel_rfl) (fun _ _ _ h => h) (Or.inl ⟨by rfl, ?_⟩) (by assumption) ?_
          rotate_left
          · (intro w hSw; (try dsimp only at hSw); go_simp; try with_reducible rfl)
          try simp only [Act.put, List.getElem_toArray, List.getElem_cons_zero, List.getElem_cons_succ, List.setIfInBounds_toArray, List.set_cons_zero, List.set_cons_succ]
          refine wpAnyH_ready (rs := [14]) (by kernel_rfl) (by simp) ?_
          refine (AllReadyH.cons (o := _) rfl (fun K hK => ?_) AllReadyH.nil)
          refine step_store_row (by rfl) 30 _ _ (by rfl) q #[.string (bsA lv), .slice (some ⟨q2, 0, none⟩) 1 1, .string (bsA lb)] (by rfl) (by rfl) 30 _ hs.head info30 rfl (by simp [Value.oneCell']) ?_
          replace hs := hs.setR #[.string (bsA lv), .slice (some ⟨q2, 0, none⟩) 1 1, .string (bsA lb)]
          generalize World.setRow _ _ _ = W at hs ⊢
          have hle := Img.le.refl J
          try clear hHeld
          refine hK.out _ _ (by (try dsimp only); exact hs.all.less hle) (fun hHeld => ?_)
          clear hK K
          try simp only [Act.put, List.getElem_toArray, List.getElem_cons_zero, List.getElem_cons_succ, List.setIfInBounds_toArray, List.set_cons_zero, List.set_cons_succ]
          refine wpAnyH_done (by kernel_rfl) ?_ _
          go_wp2
          go_meet
          exact ⟨q, _, J, rfl, Lib.hid ⟨HL.out, hs, hA⟩⟩
        · skip
          go_simp
          rw [HK.out]
          refine (filledC J _ _ k lb 98 98 rfl HB.out hs (by have := HM.out.2; omega)).mono ?_
          clear hs
          rintro e w7 ⟨_, J, M, rfl, hle, hs, rfl, gx, rfl, hb3⟩
          try clear hHeld
          refine hK.out _ _ (by (try dsimp only); exact hs.all.less hle) (fun hHeld => ?_)
          clear hK K
          try simp only [Act.put, List.getElem_toArray, List.getElem_cons_zero, List.getElem_cons_succ, List.setIfInBounds_toArray, List.set_cons_zero, List.set_cons_succ]
          refine reM hle ?_
          clear hHeld
          have hHeld := hs.all
          replace HL := Lib.hid (HL.out.trans hle)
          try replace hb1 := hb1.mono hle
          try replace hb2 := hb2.mono hle
          try replace hA := hA.mono hle
          refine wpAnyH_take (i := 11) (oi := _) (v := ?_) rfl (by kernel_rfl) (by kernel_rfl) (by kernel_rfl) (fun _ _ _ h => h) (Or.inl ⟨by rfl, ?_⟩) (by assumption) ?_
          rotate_left
          · (intro w hSw; (try dsimp only at hSw); go_simp; rw [conv_fill (n := k) (by rw [HB.out]; simp) hSw hb3]; rfl)
          try simp only [Act.put, List.getElem_toArray, List.getElem_cons_zero, List.getElem_cons_succ, List.setIfInBounds_toArray, List.set_cons_zero, List.set_cons_succ]
          refine wpAnyH_ready (rs := [6]) (by kernel_rfl) (by simp) ?_
          refine (AllReadyH.cons (o := _) rfl (fun K hK => ?_) AllReadyH.nil)
          go_simp
          have hq := hs.allocF 9 #[.string (bsA la)]
          clear hs
          obtain ⟨J, hle, hs, ho⟩ := hq
          generalize World.alloc _ _ = W at hs ⊢
          generalize Array.size (World.heap _) = q2 at hs ho ⊢
          have hA := cells1 ho
          clear ho
          try clear hHeld
          refine hK.out _ _ (by (try dsimp only); exact hs.all.less hle) (fun hHeld => ?_)
          clear hK K
          try simp only [Act.put, List.getElem_toArray, List.getElem_cons_zero, List.getElem_cons_succ, List.setIfInBounds_toArray, List.set_cons_zero, List.set_cons_succ]
          refine reM hle ?_
          clear hHeld
          have hHeld := hs.all
          replace HL := Lib.hid (HL.out.trans hle)
          try replace hb1 := hb1.mono hle
          try replace hb2 := hb2.mono hle
          try replace hb3 := hb3.mono hle
          refine wpAnyH_take (i := 12) (oi := _) (v := ?_) rfl (by kernel_rfl) (by kernel_rfl) (by kernel_rfl) (fun _ _ _ h => h) (Or.inl ⟨by rfl, ?_⟩) (by assumption) ?_
          rotate_left
          · (intro w hSw; (try dsimp only at hSw); go_simp; try with_reducible rfl)
          try simp only [Act.put, List.getElem_toArray, List.getElem_cons_zero, List.getElem_cons_succ, List.setIfInBounds_toArray, List.set_cons_zero, List.set_cons_succ]
          refine wpAnyH_ready (rs := [14]) (by kernel_rfl) (by simp) ?_
          refine (AllReadyH.cons (o := _) rfl (fun K hK => ?_) AllReadyH.nil)
          refine step_store_row (by rfl) 30 _ _ (by rfl) q #[.string (bsA lv), .slice (some ⟨q2, 0, none⟩) 1 1, .string (bsA lb)] (by rfl) (by rfl) 30 _ hs.head info30 rfl (by simp [Value.oneCell']) ?_
          replace hs := hs.setR #[.string (bsA lv), .slice (some ⟨q2, 0, none⟩) 1 1, .string (bsA lb)]
          generalize World.setRow _ _ _ = W at hs ⊢
          have hle := Img.le.refl J
          try clear hHeld
          refine hK.out _ _ (by (try dsimp only); exact hs.all.less hle) (fun hHeld => ?_)
          clear hK K
          try simp only [Act.put, List.getElem_toArray, List.getElem_cons_zero, List.getElem_cons_succ, List.setIfInBounds_toArray, List.set_cons_zero, List.set_cons_succ]
          refine wpAnyH_done (by kernel_rfl) ?_ _
          go_wp2
          go_meet
          exact ⟨q, _, J, rfl, Lib.hid ⟨HL.out, hs, hA⟩⟩
    · skip
      go_simp
      replace hs := hs.alloc 30 zeroM
      change St J _ (World.alloc _ (.cells #[.string ⟨#[]⟩, .slice none 0 0, .string ⟨#[]⟩] 30)) at hs
      generalize World.alloc _ _ = W at hs ⊢
      generalize Array.size (World.heap _) = q at hs ⊢
      have hle := Img.le.refl J
      try clear hHeld
      refine hK.out _ _ (by (try dsimp only); exact hs.all.less hle) (fun hHeld => ?_)
      clear hK K
      try simp only [Act.put, List.getElem_toArray, List.getElem_cons_zero, List.getElem_cons_succ, List.setIfInBounds_toArray, List.set_cons_zero, List.set_cons_succ]
      refine wpAnyH_ready (rs := [1]) (by kernel_rfl) (by simp) ?_
      refine (AllReadyH.cons (o := _) rfl (fun K hK => ?_) AllReadyH.nil)
      go_simp
      refine (filledC J _ _ v lv 86 86 rfl HV.out hs (by have := HM.out.2; omega)).mono ?_
      clear hs
      rintro e w7 ⟨_, J, M, rfl, hle, hs, rfl, gx, rfl, hb1⟩
      try clear hHeld
      refine hK.out _ _ (by (try dsimp only); exact hs.all.less hle) (fun hHeld => ?_)
      clear hK K
      try simp only [Act.put, List.getElem_toArray, List.getElem_cons_zero, List.getElem_cons_succ, List.setIfInBounds_toArray, List.set_cons_zero, List.set_cons_succ]
      refine reM hle ?_
      clear hHeld
      have hHeld := hs.all
      replace HL := Lib.hid (HL.out.trans hle)
      try replace hb2 := hb2.mono hle
      try replace hb3 := hb3.mono hle
      try replace hA := hA.mono hle
      refine wpAnyH_take (i := 2) (oi := _) (v := ?_) rfl (by kernel_rfl) (by kernel_rfl) (by kernel_rfl) (fun _ _ _ h => h) (Or.inl ⟨by rfl, ?_⟩) (by assumption) ?_
      rotate_left
      · (intro w hSw; (try dsimp only at hSw); go_simp; rw [conv_fill (n := v) (by rw [HV.out]; simp) hSw hb1]; rfl)
      try simp only [Act.put, List.getElem_toArray, List.getElem_cons_zero, List.getElem_cons_succ, List.setIfInBounds_toArray, List.set_cons_zero, List.set_cons_succ]
      refine wpAnyH_ready (rs := [4]) (by kernel_rfl) (by simp) ?_
      refine (AllReadyH.cons (o := _) rfl (fun K hK => ?_) AllReadyH.nil)
      go_simp
      refine (filledC J _ _ y la 97 97 rfl HA.out hs (by have := HM.out.2; omega)).mono ?_
      clear hs
      rintro e w7 ⟨_, J, M, rfl, hle, hs, rfl, gx, rfl, hb2⟩
      try clear hHeld
      refine hK.out _ _ (by (try dsimp only); exact hs.all.less hle) (fun hHeld => ?_)
      clear hK K
      try simp only [Act.put, List.getElem_toArray, List.getElem_cons_zero, List.getElem_cons_succ, List.setIfInBounds_toArray, List.set_cons_zero, List.set_cons_succ]
      refine reM hle ?_
      clear hHeld
      have hHeld := hs.all
      replace HL := Lib.hid (HL.out.trans hle)
      try replace hb1 := hb1.mono hle
      try replace hb3 := hb3.mono hle
      try replace hA := hA.mono hle
      refine wpAnyH_take (i := 5) (oi := _) (v := ?_) rfl (by kernel_rfl) (by kernel_rfl) (by kernel_rfl) (fun _ _ _ h => h) (Or.inl ⟨by rfl, ?_⟩) (by assumption) ?_
      rotate_left
      · (intro w hSw; (try dsimp only at hSw); go_simp; rw [conv_fill (n := y) (by rw [HA.out]; simp) hSw hb2]; rfl)
      try simp only [Act.put, List.getElem_toArray, List.getElem_cons_zero, List.getElem_cons_succ, List.setIfInBounds_toArray, List.set_cons_zero, List.set_cons_succ]
      refine wpAnyH_ready (rs := [6, 10]) (by kernel_rfl) (by simp) ?_
      refine (AllReadyH.cons (o := _) rfl (fun K hK => ?_) (AllReadyH.cons (o := _) rfl (fun K hK => ?_) AllReadyH.nil))
      · skip
        go_simp
        have hq := hs.allocF 9 #[.string (bsA la)]
        clear hs
        obtain ⟨J, hle, hs, ho⟩ := hq
        generalize World.alloc _ _ = W at hs ⊢
        generalize Array.size (World.heap _) = q2 at hs ho ⊢
        have hA := cells1 ho
        clear ho
        try clear hHeld
        refine hK.out _ _ (by (try dsimp only); exact hs.all.less hle) (fun hHeld => ?_)
        clear hK K
        try simp only [Act.put, List.getElem_toArray, List.getElem_cons_zero, List.getElem_cons_succ, List.setIfInBounds_toArray, List.set_cons_zero, List.set_cons_succ]
        refine reM hle ?_
        clear hHeld
        have hHeld := hs.all
        replace HL := Lib.hid (HL.out.trans hle)
        try replace hb1 := hb1.mono hle
        try replace hb2 := hb2.mono hle
        try replace hb3 := hb3.mono hle
        refine wpAnyH_ready (rs := [10]) (by kernel_rfl) (by simp) ?_
        refine (AllReadyH.cons (o := _) rfl (fun K hK => ?_) AllReadyH.nil)
        go_simp
        rw [HK.out]
        refine (filledC J _ _ k lb 98 98 rfl HB.out hs (by have := HM.out.2; omega)).mono ?_
        clear hs
        rintro e w7 ⟨_, J, M, rfl, hle, hs, rfl, gx, rfl, hb3⟩
        try clear hHeld
        refine hK.out _ _ (by (try dsimp only); exact hs.all.less hle) (fun hHeld => ?_)
        clear hK K
        try simp only [Act.put, List.getElem_toArray, List.getElem_cons_zero, List.getElem_cons_succ, List.setIfInBounds_toArray, List.set_cons_zero, List.set_cons_succ]
        refine reM hle ?_
        clear hHeld
        have hHeld := hs.all
        replace HL := Lib.hid (HL.out.trans hle)
        try replace hb1 := hb1.mono hle
        try replace hb2 := hb2.mono hle
        try replace hA := hA.mono hle
        refine wpAnyH_take (i := 11) (oi := _) (v := ?_) rfl (by kernel_rfl) (by kernel_rfl) (by kernel_rfl) (fun _ _ _ h => h) (Or.inl ⟨by rfl, ?_⟩) (by assumption) ?_
        rotate_left
        · (intro w hSw; (try dsimp only at hSw); go_simp; rw [conv_fill (n := k) (by rw [HB.out]; simp) hSw hb3]; rfl)
        try simp only [Act.put, List.getElem_toArray, List.getElem_cons_zero, List.getElem_cons_succ, List.setIfInBounds_toArray, List.set_cons_zero, List.set_cons_succ]
        refine wpAnyH_take (i := 12) (oi := _) (v := ?_) rfl (by kernel_rfl) (by kernel_rfl) (by kernel_rfl) (fun _ _ _ h => h) (Or.inl ⟨by rfl, ?_⟩) (by assumption) ?_
        rotate_left
        · (intro w hSw; (try dsimp only at hSw); go_simp; try with_reducible rfl)
        try simp only [Act.put, List.getElem_toArray, List.getElem_cons_zero, List.getElem_cons_succ, List.setIfInBounds_toArray, List.set_cons_zero, List.set_cons_succ]
        refine wpAnyH_ready (rs := [14]) (by kernel_rfl) (by simp) ?_
        refine (AllReadyH.cons (o := _) rfl (fun K hK => ?_) AllReadyH.nil)
        refine step_store_row (by rfl) 30 _ _ (by rfl) q #[.string (bsA lv), .slice (some ⟨q2, 0, none⟩) 1 1, .string (bsA lb)] (by rfl) (by rfl) 30 _ hs.head info30 rfl (by simp [Value.oneCell']) ?_
        replace hs := hs.setR #[.string (bsA lv), .slice (some ⟨q2, 0, none⟩) 1 1, .string (bsA lb)]
        generalize World.setRow _ _ _ = W at hs ⊢
        have hle := Img.le.refl J
        try clear hHeld
        refine hK.out _ _ (by (try dsimp only); exact hs.all.less hle) (fun hHeld => ?_)
        clear hK K
        try simp only [Act.put, List.getElem_toArray, List.getElem_cons_zero, List.getElem_cons_succ, List.setIfInBounds_toArray, List.set_cons_zero, List.set_cons_succ]
        refine wpAnyH_done (by kernel_rfl) ?_ _
        go_wp2
        go_meet
        exact ⟨q, _, J, rfl, Lib.hid ⟨HL.out, hs, hA⟩⟩
      · skip
        go_simp
        rw [HK.out]
        refine (filledC J _ _ k lb 98 98 rfl HB.out hs (by have := HM.out.2; omega)).mono ?_
        clear hs
        rintro e w7 ⟨_, J, M, rfl, hle, hs, rfl, gx, rfl, hb3⟩
        try clear hHeld
        refine hK.out _ _ (by (try dsimp only); exact hs.all.less hle) (fun hHeld => ?_)
        clear hK K
        try simp only [Act.put, List.getElem_toArray, List.getElem_cons_zero, List.getElem_cons_succ, List.setIfInBounds_toArray, List.set_cons_zero, List.set_cons_succ]
        refine reM hle ?_
        clear hHeld
        have hHeld := hs.all
        replace HL := Lib.hid (HL.out.trans hle)
        try replace hb1 := hb1.mono hle
        try replace hb2 := hb2.mono hle
        try replace hA := hA.mono hle
        refine wpAnyH_take (i := 11) (oi := _) (v := ?_) rfl (by kernel_rfl) (by kernel_rfl) (by kernel_rfl) (fun _ _ _ h => h) (Or.inl ⟨by rfl, ?_⟩) (by assumption) ?_
        rotate_left
        · (intro w hSw; (try dsimp only at hSw); go_simp; rw [conv_fill (n := k) (by rw [HB.out]; simp) hSw hb3]; rfl)
        try simp only [Act.put, List.getElem_toArray, List.getElem_cons_zero, List.getElem_cons_succ, List.setIfInBounds_toArray, List.set_cons_zero, List.set_cons_succ]
        refine wpAnyH_ready (rs := [6]) (by kernel_rfl) (by simp) ?_
        refine (AllReadyH.cons (o := _) rfl (fun K hK => ?_) AllReadyH.nil)
        go_simp
        have hq := hs.allocF 9 #[.string (bsA la)]
        clear hs
        obtain ⟨J, hle, hs, ho⟩ := hq
        generalize World.alloc _ _ = W at hs ⊢
        generalize Array.size (World.heap _) = q2 at hs ho ⊢
        have hA := cells1 ho
        clear ho
        try clear hHeld
        refine hK.out _ _ (by (try dsimp only); exact hs.all.less hle) (fun hHeld => ?_)
        clear hK K
        try simp only [Act.put, List.getElem_toArray, List.getElem_cons_zero, List.getElem_cons_succ, List.setIfInBounds_toArray, List.set_cons_zero, List.set_cons_succ]
        refine reM hle ?_
        clear hHeld
        have hHeld := hs.all
        replace HL := Lib.hid (HL.out.trans hle)
        try replace hb1 := hb1.mono hle
        try replace hb2 := hb2.mono hle
        try replace hb3 := hb3.mono hle
        refine wpAnyH_take (i := 12) (oi := _) (v := ?_) rfl (by kernel_rfl) (by kernel_rfl) (by kernel_rfl) (fun _ _ _ h => h) (Or.inl ⟨by rfl, ?_⟩) (by assumption) ?_
        rotate_left
        · (intro w hSw; (try dsimp only at hSw); go_simp; try with_reducible rfl)
        try simp only [Act.put, List.getElem_toArray, List.getElem_cons_zero, List.getElem_cons_succ, List.setIfInBounds_toArray, List.set_cons_zero, List.set_cons_succ]
        refine wpAnyH_ready (rs := [14]) (by kernel_rfl) (by simp) ?_
        refine (AllReadyH.cons (o := _) rfl (fun K hK => ?_) AllReadyH.nil)
        refine step_store_row (by rfl) 30 _ _ (by rfl) q #[.string (bsA lv), .slice (some ⟨q2, 0, none⟩) 1 1, .string (bsA lb)] (by rfl) (by rfl) 30 _ hs.head info30 rfl (by simp [Value.oneCell']) ?_
        replace hs := hs.setR #[.string (bsA lv), .slice (some ⟨q2, 0, none⟩) 1 1, .string (bsA lb)]
        generalize World.setRow _ _ _ = W at hs ⊢
        have hle := Img.le.refl J
        try clear hHeld
        refine hK.out _ _ (by (try dsimp only); exact hs.all.less hle) (fun hHeld => ?_)
        clear hK K
        try simp only [Act.put, List.getElem_toArray, List.getElem_cons_zero, List.getElem_cons_succ, List.setIfInBounds_toArray, List.set_cons_zero, List.set_cons_succ]
        refine wpAnyH_done (by kernel_rfl) ?_ _
        go_wp2
        go_meet
        exact ⟨q, _, J, rfl, Lib.hid ⟨HL.out, hs, hA⟩⟩
  case rest =>
    obtain ⟨q, A, J2, rfl, HQ⟩ := hcut
    clear HL hs
    obtain ⟨hl2, hs, hA2⟩ := HQ.out
    obtain ⟨hm, hv14, hy, hk93⟩ := HM.out
    have hmJ := hl2.cell hm
    have hmL : (⟨bsA lv, [bsA la], bsA lb⟩ : Msg) = mL v y k := by rw [HV.out, HA.out, HB.out]; rfl
    have hz1 : (bsA lv).size = v := by rw [bsA_size, HV.out]; simp
    have hz2 : (bsA la).size = y := by rw [bsA_size, HA.out]; simp
    have hz3 : (bsA lb).size = k := by rw [bsA_size, HB.out]; simp
    have hP := printP J2 _ wc A 1 ⟨bsA lv, [bsA la], bsA lb⟩ hs hA2 ⟨by show (bsA lv).size ≤ _; unfold maxLen; omega, by show (bsA lb).size ≤ _; unfold maxLen; omega, (fun a ha => by rw [List.mem_singleton.1 ha]; unfold maxLen; omega), by show 1 ≤ 140737488351232; omega⟩
    rw [hmL] at hP
    have hS : ls (bsA lv ++ ⟨#[32]⟩ ++ bsA la ++ ⟨#[10]⟩ ++ bsA lb) = tL v y k := by
      rw [tL_eq, HV.out, HA.out, HB.out]
      simp [app_ls]
    obtain ⟨g, o, hgo, hcA⟩ := hA2 (by simp [strs])
    have hcA0 := hcA 0 (by simp [strs])
    subst hgo
    have hX := limits v y k
    obtain ⟨D, e, hDe⟩ : ∃ D e, printR (mL v y k) = (D, e) := ⟨_, _, rfl⟩
    obtain ⟨X, f, hXf⟩ : ∃ X f, parseM (tL v y k) = (X, f) := ⟨_, _, rfl⟩
    have hXb : f = 0 → X.body = bsA lb := fun h0 => by
      rcases hX with ⟨_, _, h⟩ | ⟨_, _, _, h⟩ | ⟨_, _, h⟩
      · rw [h] at hXf
        injection hXf with h1 _
        rw [← h1, HB.out]
        rfl
      · rw [h] at hXf
        injection hXf with _ h2
        rw [← h2] at h0
        cases h0
      · rw [h] at hXf
        injection hXf with _ h2
        rw [← h2] at h0
        cases h0
    have hDn : e = 0 → (bsA D).toList.isEmpty = false := fun h0 => by
      rcases hX with ⟨_, h, _⟩ | ⟨_, _, h, _⟩ | ⟨_, h, _⟩
      · rw [h] at hDe
        injection hDe with h1 _
        rw [← h1]
        refine isEmpty_no ?_
        rw [bsA_size, tL_len]
        omega
      · rw [h] at hDe
        injection hDe with _ h2
        rw [← h2] at h0
        cases h0
      · rw [h] at hDe
        injection hDe with _ h2
        rw [← h2] at h0
        cases h0
    have hP0 : Calls Tryd.prog 10 #[.agg #[.string (bsA lv), .slice (some ⟨g, o, none⟩) 1 1, .string (bsA lb)]] wc (Ret J2 (fun v' J M' => J2 = J ∧ M' = bk q 30 (msgC ⟨bsA lv, [bsA la], bsA lb⟩ (.slice (some ⟨g, o, none⟩) 1 1)) :: M ∧ v' = .tuple #[.string (bsA D), .int .i64 e])) := by
      have h := hP
      rw [← hmL] at h
      have hD' : printR ⟨bsA lv, [bsA la], bsA lb⟩ = (D, e) := by rw [hmL]; exact hDe
      rw [hD'] at h
      exact h
    have HW := Lib.hid (show ((1 ≤ v ∧ v ≤ 10) ∧ (1 ≤ y ∧ y ≤ 200) ∧ v + 1 + y + 1 + k ≤ 9192 ∧ e = 0 ∧ f = 0) ∨ (¬ ((1 ≤ v ∧ v ≤ 10) ∧ (1 ≤ y ∧ y ≤ 200) ∧ v + 1 + y + 1 + k ≤ 9192) ∧ e = 1 ∧ ((v + 1 + y + 1 + k ≤ 9192 ∧ f = 2) ∨ (9192 < v + 1 + y + 1 + k ∧ f = 3))) by
      rcases hX with ⟨h, h1, h2⟩ | ⟨h, h3, h1, h2⟩ | ⟨h3, h1, h2⟩
      · rw [h1] at hDe
        rw [h2] at hXf
        injection hDe with _ h4
        injection hXf with _ h5
        exact .inl ⟨h.1, h.2.1, h.2.2, h4.symm, h5.symm⟩
      · rw [h1] at hDe
        rw [h2] at hXf
        injection hDe with _ h4
        injection hXf with _ h5
        exact .inr ⟨fun h6 => h ⟨h6.1, h6.2.1⟩, h4.symm, .inl ⟨h3, h5.symm⟩⟩
      · rw [h1] at hDe
        rw [h2] at hXf
        injection hDe with _ h4
        injection hXf with _ h5
        exact .inr ⟨fun h6 => by omega, h4.symm, .inr ⟨h3, h5.symm⟩⟩)
    have HX := Lib.hid (And.intro hXb hDn)
    have HPF := Lib.hid (show ∀ N w', St J2 N w' → Calls Tryd.prog 13 #[.string (bsA lv ++ ⟨#[32]⟩ ++ bsA la ++ ⟨#[10]⟩ ++ bsA lb)] w' (Ret J2 (fun v' J M' => M' = N ∧ ParsedAs J (X, f) v')) from fun N w' h => by
      have h1 := parseP J2 N w' (bsA lv ++ ⟨#[32]⟩ ++ bsA la ++ ⟨#[10]⟩ ++ bsA lb) mx h hmJ (by
        have h2 := congrArg List.length hS
        rw [ls_len, tL_len] at h2
        unfold maxLen
        omega)
      rw [hS, hXf] at h1
      exact h1)
    have HPR := Lib.hid hP0
    have HL2 := Lib.hid hl2
    have HC0 := Lib.hid hcA0
    obtain ⟨c0, c1, c2, -⟩ := Blk.three (show Blk wc q 30 #[.string (bsA lv), .slice (some ⟨g, o, none⟩) 1 1, .string (bsA lb)] from hs.head)
    clear hX hDe hXf hXb hDn hP hP0 hs hA2 hm hv14 hy hk93 hmJ hmL hS hl2 hcA hcA0 HQ HV HA HB HM
    generalize bsA lv = V at *
    generalize bsA la = U at *
    generalize bsA lb = B at *
    go_wp2_with fail
    go_at_call 10
    refine HPR.out.mono ?_
    rintro e' w2 ⟨_, _, _, rfl, _, hs, rfl, rfl, rfl⟩
    clear HPR c0 c1 c2
    generalize bsA D = s' at *
    obtain ⟨c0, c1, c2, -⟩ := Blk.three (show Blk w2 q 30 #[.string V, .slice (some ⟨g, o, none⟩) 1 1, .string B] from hs.head)
    have HS := Lib.hid hs
    clear hs
    go_upto_region 6 with fail
    go_cut [12] (fun b wx => b = .bool (decide ((1 ≤ v ∧ v ≤ 10) ∧ (1 ≤ y ∧ y ≤ 200) ∧ v + 1 + y + 1 + k ≤ 9192)) ∧ wx = w2)
    case first =>
      by_cases a1 : 1 ≤ v
      rotate_left
      · have n1 : decide ((1 : Int) ≤ v) = false := decide_eq_false (by omega)
        have HE := Lib.hid (decide_eq_false (p := ((1 ≤ v ∧ v ≤ 10) ∧ (1 ≤ y ∧ y ≤ 200) ∧ v + 1 + y + 1 + k ≤ 9192)) (by omega))
        clear a1
        go_wp2
        go_meet
        exact ⟨congrArg Value.bool HE.out.symm, rfl⟩
      have p1 : (1 : Int) ≤ v := by omega
      by_cases a2 : v ≤ 10
      rotate_left
      · have n1 : decide ((v : Int) ≤ 10) = false := decide_eq_false (by omega)
        have HE := Lib.hid (decide_eq_false (p := ((1 ≤ v ∧ v ≤ 10) ∧ (1 ≤ y ∧ y ≤ 200) ∧ v + 1 + y + 1 + k ≤ 9192)) (by omega))
        clear a1 a2
        go_wp2
        go_meet
        exact ⟨congrArg Value.bool HE.out.symm, rfl⟩
      have p2 : (v : Int) ≤ 10 := by omega
      by_cases a3 : 1 ≤ y
      rotate_left
      · have n1 : decide ((1 : Int) ≤ y) = false := decide_eq_false (by omega)
        have HE := Lib.hid (decide_eq_false (p := ((1 ≤ v ∧ v ≤ 10) ∧ (1 ≤ y ∧ y ≤ 200) ∧ v + 1 + y + 1 + k ≤ 9192)) (by omega))
        clear a1 a2 a3
        go_wp2
        go_meet
        exact ⟨congrArg Value.bool HE.out.symm, rfl⟩
      have p3 : (1 : Int) ≤ y := by omega
      by_cases a4 : y ≤ 200
      rotate_left
      · have n1 : decide ((y : Int) ≤ 200) = false := decide_eq_false (by omega)
        have HE := Lib.hid (decide_eq_false (p := ((1 ≤ v ∧ v ≤ 10) ∧ (1 ≤ y ∧ y ≤ 200) ∧ v + 1 + y + 1 + k ≤ 9192)) (by omega))
        clear a1 a2 a3 a4
        go_wp2
        go_meet
        exact ⟨congrArg Value.bool HE.out.symm, rfl⟩
      have p4 : (y : Int) ≤ 200 := by omega
      by_cases a5 : v + 1 + y + 1 + k ≤ 9192
      · have HE := Lib.hid (decide_eq_true (p := ((1 ≤ v ∧ v ≤ 10) ∧ (1 ≤ y ∧ y ≤ 200) ∧ v + 1 + y + 1 + k ≤ 9192)) (by omega))
        have n1 : decide ((v : Int) + 1 + y + 1 + k ≤ 9192) = true := decide_eq_true (by omega)
        clear a1 a2 a3 a4 a5
        go_wp2
        go_meet
        exact ⟨congrArg Value.bool HE.out.symm, rfl⟩
      · have HE := Lib.hid (decide_eq_false (p := ((1 ≤ v ∧ v ≤ 10) ∧ (1 ≤ y ∧ y ≤ 200) ∧ v + 1 + y + 1 + k ≤ 9192)) (by omega))
        have n1 : decide ((v : Int) + 1 + y + 1 + k ≤ 9192) = false := decide_eq_false (by omega)
        clear a1 a2 a3 a4 a5
        go_wp2
        go_meet
        exact ⟨congrArg Value.bool HE.out.symm, rfl⟩
    case rest =>
      obtain ⟨rfl, rfl⟩ := hcut
      obtain ⟨fits, hfits⟩ : ∃ b, b = decide ((1 ≤ v ∧ v ≤ 10) ∧ (1 ≤ y ∧ y ≤ 200) ∧ v + 1 + y + 1 + k ≤ 9192) := ⟨_, rfl⟩
      have HFT := Lib.hid hfits
      rw [← hfits]
      clear hfits
      have hJ := Img.le.refl J2
      have hs := HS.out
      change St J2 (bk q 30 #[.string V, .slice (some ⟨g, o, none⟩) 1 1, .string B] :: M) _ at hs
      have HC1 := Lib.hid (show J2.cell? ⟨g, o, none⟩ = some (.string U) from HC0.out)
      clear HS c0 c1 c2
      go_upto_region 7 with fail
      go_cut [13, 14] (fun p t wx => ∃ (q2 : Nat) (A3 : Option Addr) (n3 c3 : Nat) (J3 : Img), p = .pointer (some ⟨q2, 0, none⟩) ∧ t = .int .i64 f ∧ Hid (J2.le J3 ∧ St J3 (bk q2 30 #[.string X.verb, .slice A3 n3 c3, .string X.body] :: bk q 30 #[.string V, .slice (some ⟨g, o, none⟩) 1 1, .string B] :: M) wx))
      case first =>
        replace hs := hs.drew
        refine wp_region_held_drew (S := (fun w' => w'.cell? ⟨q, 0, none⟩ = some (.string V) ∧ w'.cell? ⟨q, 1, none⟩ = some (.slice (some ⟨g, o, none⟩) 1 1) ∧ w'.cell? ⟨q, 2, none⟩ = some (.string B) ∧ w'.cell? ⟨g, o, none⟩ = some (.string U))) (by kernel_rfl) (by (try dsimp only); first | exact zkL hs (i := 0) rfl hJ HC1.out | exact zkL hs (i := 1) rfl hJ HC1.out) (fun hHeld => ?_)
        generalize World.drew _ = W6 at hs hHeld ⊢
        refine wpAnyH_take (i := 0) (oi := _) (v := ?_) rfl (by kernel_rfl) (by kernel_rfl) (by kernel_rfl) (fun _ _ _ h => h) (Or.inl ⟨by rfl, ?_⟩) (by assumption) ?_
        rotate_left
        · (intro w hSw; (try dsimp only at hSw); go_simp; try with_reducible rfl)
        try simp only [Act.put, List.getElem_toArray, List.getElem_cons_zero, List.getElem_cons_succ, List.setIfInBounds_toArray, List.set_cons_zero, List.set_cons_succ]
        refine wpAnyH_take (i := 1) (oi := _) (v := ?_) rfl (by kernel_rfl) (by kernel_rfl) (by kernel_rfl) (fun _ _ _ h => h) (Or.inl ⟨by rfl, ?_⟩) (by assumption) ?_
        rotate_left
        · (intro w hSw; (try dsimp only at hSw); go_simp; try with_reducible rfl)
        try simp only [Act.put, List.getElem_toArray, List.getElem_cons_zero, List.getElem_cons_succ, List.setIfInBounds_toArray, List.set_cons_zero, List.set_cons_succ]
        refine wpAnyH_take (i := 2) (oi := _) (v := ?_) rfl (by kernel_rfl) (by kernel_rfl) (by kernel_rfl) (fun _ _ _ h => h) (Or.inl ⟨by rfl, ?_⟩) (by assumption) ?_
        rotate_left
        · (intro w hSw; (try dsimp only at hSw); go_simp; rw [if_neg (by omega)]; try with_reducible rfl)
        try simp only [Act.put, List.getElem_toArray, List.getElem_cons_zero, List.getElem_cons_succ, List.setIfInBounds_toArray, List.set_cons_zero, List.set_cons_succ]
        refine wpAnyH_take (i := 3) (oi := _) (v := ?_) rfl (by kernel_rfl) (by kernel_rfl) (by kernel_rfl) (fun _ _ _ h => h) (Or.inl ⟨by rfl, ?_⟩) (by assumption) ?_
        rotate_left
        · (intro w hSw; (try dsimp only at hSw); go_simp; try with_reducible rfl)
        try simp only [Act.put, List.getElem_toArray, List.getElem_cons_zero, List.getElem_cons_succ, List.setIfInBounds_toArray, List.set_cons_zero, List.set_cons_succ]
        refine wpAnyH_take (i := 4) (oi := _) (v := ?_) rfl (by kernel_rfl) (by kernel_rfl) (by kernel_rfl) (fun _ _ _ h => h) (Or.inl ⟨by rfl, ?_⟩) (by assumption) ?_
        rotate_left
        · (intro w hSw; (try dsimp only at hSw); go_simp; try with_reducible rfl)
        try simp only [Act.put, List.getElem_toArray, List.getElem_cons_zero, List.getElem_cons_succ, List.setIfInBounds_toArray, List.set_cons_zero, List.set_cons_succ]
        refine wpAnyH_take (i := 5) (oi := _) (v := ?_) rfl (by kernel_rfl) (by kernel_rfl) (by kernel_rfl) (fun _ _ _ h => h) (Or.inl ⟨by rfl, ?_⟩) (by assumption) ?_
        rotate_left
        · (intro w hSw; (try dsimp only at hSw); go_simp; try with_reducible rfl)
        try simp only [Act.put, List.getElem_toArray, List.getElem_cons_zero, List.getElem_cons_succ, List.setIfInBounds_toArray, List.set_cons_zero, List.set_cons_succ]
        refine wpAnyH_take (i := 6) (oi := _) (v := ?_) rfl (by kernel_rfl) (by kernel_rfl) (by kernel_rfl) (fun _ _ _ h => h) (Or.inl ⟨by rfl, ?_⟩) (by assumption) ?_
        rotate_left
        · (intro w hSw; (try dsimp only at hSw); go_simp; try with_reducible rfl)
        try simp only [Act.put, List.getElem_toArray, List.getElem_cons_zero, List.getElem_cons_succ, List.setIfInBounds_toArray, List.set_cons_zero, List.set_cons_succ]
        refine wpAnyH_take (i := 7) (oi := _) (v := ?_) rfl (by kernel_rfl) (by kernel_rfl) (by kernel_rfl) (fun _ _ _ h => h) (Or.inl ⟨by rfl, ?_⟩) (by assumption) ?_
        rotate_left
        · (intro w hSw; (try dsimp only at hSw); go_simp; rw [if_neg (by omega)]; try with_reducible rfl)
        try simp only [Act.put, List.getElem_toArray, List.getElem_cons_zero, List.getElem_cons_succ, List.setIfInBounds_toArray, List.set_cons_zero, List.set_cons_succ]
        refine wpAnyH_take (i := 8) (oi := _) (v := ?_) rfl (by kernel_rfl) (by kernel_rfl) (by kernel_rfl) (fun _ _ _ h => h) (Or.inl ⟨by rfl, ?_⟩) (by assumption) ?_
        rotate_left
        · (intro w hSw; (try dsimp only at hSw); go_simp; rw [if_neg (by omega)]; try with_reducible rfl)
        try simp only [Act.put, List.getElem_toArray, List.getElem_cons_zero, List.getElem_cons_succ, List.setIfInBounds_toArray, List.set_cons_zero, List.set_cons_succ]
        refine wpAnyH_take (i := 9) (oi := _) (v := ?_) rfl (by kernel_rfl) (by kernel_rfl) (by kernel_rfl) (fun _ _ _ h => h) (Or.inl ⟨by rfl, ?_⟩) (by assumption) ?_
        rotate_left
        · (intro w hSw; (try dsimp only at hSw); go_simp; try with_reducible rfl)
        try simp only [Act.put, List.getElem_toArray, List.getElem_cons_zero, List.getElem_cons_succ, List.setIfInBounds_toArray, List.set_cons_zero, List.set_cons_succ]
        refine wpAnyH_take (i := 10) (oi := _) (v := ?_) rfl (by kernel_rfl) (by kernel_rfl) (by kernel_rfl) (fun _ _ _ h => h) (Or.inl ⟨by rfl, ?_⟩) (by assumption) ?_
        rotate_left
        · (intro w hSw; (try dsimp only at hSw); go_simp; try with_reducible rfl)
        try simp only [Act.put, List.getElem_toArray, List.getElem_cons_zero, List.getElem_cons_succ, List.setIfInBounds_toArray, List.set_cons_zero, List.set_cons_succ]
        refine wpAnyH_take (i := 11) (oi := _) (v := ?_) rfl (by kernel_rfl) (by kernel_rfl) (by kernel_rfl) (fun _ _ _ h => h) (Or.inl ⟨by rfl, ?_⟩) (by assumption) ?_
        rotate_left
        · (intro w hSw; (try dsimp only at hSw); go_simp; rw [if_neg (by omega)]; try with_reducible rfl)
        try simp only [Act.put, List.getElem_toArray, List.getElem_cons_zero, List.getElem_cons_succ, List.setIfInBounds_toArray, List.set_cons_zero, List.set_cons_succ]
        refine wpAnyH_ready (rs := [12, 16]) (by kernel_rfl) (by simp) ?_
        refine (AllReadyH.cons (o := _) rfl (fun K hK => ?_) (AllReadyH.cons (o := _) rfl (fun K hK => ?_) AllReadyH.nil))
        · skip
          go_simp
          refine (HPF.out _ _ hs).mono ?_
          clear hs
          rintro e w7 ⟨_, J3, M, rfl, hJ, hs, rfl, A3, c3, rfl, hA3⟩
          dsimp only
          try clear hHeld
          refine hK.out _ _ (by (try dsimp only); first | exact zkL hs (i := 0) rfl hJ HC1.out | exact zkL hs (i := 1) rfl hJ HC1.out) (fun hHeld => ?_)
          clear hK K
          try simp only [Act.put, List.getElem_toArray, List.getElem_cons_zero, List.getElem_cons_succ, List.setIfInBounds_toArray, List.set_cons_zero, List.set_cons_succ]
          refine wpAnyH_take (i := 13) (oi := _) (v := ?_) rfl (by kernel_rfl) (by kernel_rfl) (by kernel_rfl) (fun _ _ _ h => h) (Or.inl ⟨by rfl, ?_⟩) (by assumption) ?_
          rotate_left
          · (intro w hSw; (try dsimp only at hSw); go_simp; try with_reducible rfl)
          try simp only [Act.put, List.getElem_toArray, List.getElem_cons_zero, List.getElem_cons_succ, List.setIfInBounds_toArray, List.set_cons_zero, List.set_cons_succ]
          refine wpAnyH_take (i := 14) (oi := _) (v := ?_) rfl (by kernel_rfl) (by kernel_rfl) (by kernel_rfl) (fun _ _ _ h => h) (Or.inl ⟨by rfl, ?_⟩) (by assumption) ?_
          rotate_left
          · (intro w hSw; (try dsimp only at hSw); go_simp; try with_reducible rfl)
          try simp only [Act.put, List.getElem_toArray, List.getElem_cons_zero, List.getElem_cons_succ, List.setIfInBounds_toArray, List.set_cons_zero, List.set_cons_succ]
          refine wpAnyH_take (i := 15) (oi := _) (v := ?_) rfl (by kernel_rfl) (by kernel_rfl) (by kernel_rfl) (fun _ _ _ h => h) (Or.inl ⟨by rfl, ?_⟩) (by assumption) ?_
          rotate_left
          · (intro w hSw; (try dsimp only at hSw); go_simp; try with_reducible rfl)
          try simp only [Act.put, List.getElem_toArray, List.getElem_cons_zero, List.getElem_cons_succ, List.setIfInBounds_toArray, List.set_cons_zero, List.set_cons_succ]
          refine wpAnyH_ready (rs := [16]) (by kernel_rfl) (by simp) ?_
          refine (AllReadyH.cons (o := _) rfl (fun K hK => ?_) AllReadyH.nil)
          go_simp
          replace hs := hs.alloc 30 #[.string ⟨#[]⟩, .slice none 0 0, .string ⟨#[]⟩]
          generalize World.alloc _ _ = W at hs ⊢
          generalize Array.size (World.heap _) = q2 at hs ⊢
          try clear hHeld
          refine hK.out _ _ (by (try dsimp only); first | exact zkL hs (i := 0) rfl hJ HC1.out | exact zkL hs (i := 1) rfl hJ HC1.out) (fun hHeld => ?_)
          clear hK K
          try simp only [Act.put, List.getElem_toArray, List.getElem_cons_zero, List.getElem_cons_succ, List.setIfInBounds_toArray, List.set_cons_zero, List.set_cons_succ]
          refine wpAnyH_ready (rs := [17]) (by kernel_rfl) (by simp) ?_
          refine (AllReadyH.cons (o := _) rfl (fun K hK => ?_) AllReadyH.nil)
          refine step_store_row (by rfl) 30 _ _ (by rfl) q2 #[.string X.verb, .slice A3 X.args.length c3, .string X.body] (by rfl) (by rfl) 30 _ hs.head info30 rfl (by simp [Value.oneCell']) ?_
          replace hs := hs.setR #[.string X.verb, .slice A3 X.args.length c3, .string X.body]
          generalize World.setRow _ _ _ = W at hs ⊢
          try clear hHeld
          refine hK.out _ _ (by (try dsimp only); first | exact zkL hs (i := 0) rfl hJ HC1.out | exact zkL hs (i := 1) rfl hJ HC1.out) (fun hHeld => ?_)
          clear hK K
          try simp only [Act.put, List.getElem_toArray, List.getElem_cons_zero, List.getElem_cons_succ, List.setIfInBounds_toArray, List.set_cons_zero, List.set_cons_succ]
          refine wpAnyH_take (i := 18) (oi := _) (v := ?_) rfl (by kernel_rfl) (by kernel_rfl) (by kernel_rfl) (fun _ _ _ h => h) (Or.inl ⟨by rfl, ?_⟩) (by assumption) ?_
          rotate_left
          · (intro w hSw; (try dsimp only at hSw); go_simp; try with_reducible rfl)
          try simp only [Act.put, List.getElem_toArray, List.getElem_cons_zero, List.getElem_cons_succ, List.setIfInBounds_toArray, List.set_cons_zero, List.set_cons_succ]
          refine wpAnyH_done (by kernel_rfl) ?_ _
          go_wp2
          go_meet
          exact ⟨q2, A3, _, c3, _, rfl, rfl, Lib.hid ⟨hJ, hs⟩⟩
        · skip
          go_simp
          replace hs := hs.alloc 30 #[.string ⟨#[]⟩, .slice none 0 0, .string ⟨#[]⟩]
          generalize World.alloc _ _ = W at hs ⊢
          generalize Array.size (World.heap _) = q2 at hs ⊢
          try clear hHeld
          refine hK.out _ _ (by (try dsimp only); first | exact zkL hs (i := 0) rfl hJ HC1.out | exact zkL hs (i := 1) rfl hJ HC1.out) (fun hHeld => ?_)
          clear hK K
          try simp only [Act.put, List.getElem_toArray, List.getElem_cons_zero, List.getElem_cons_succ, List.setIfInBounds_toArray, List.set_cons_zero, List.set_cons_succ]
          refine wpAnyH_ready (rs := [12]) (by kernel_rfl) (by simp) ?_
          refine (AllReadyH.cons (o := _) rfl (fun K hK => ?_) AllReadyH.nil)
          go_simp
          refine (HPF.out _ _ hs).mono ?_
          clear hs
          rintro e w7 ⟨_, J3, M, rfl, hJ, hs, rfl, A3, c3, rfl, hA3⟩
          dsimp only
          try clear hHeld
          refine hK.out _ _ (by (try dsimp only); first | exact zkL hs (i := 0) rfl hJ HC1.out | exact zkL hs (i := 1) rfl hJ HC1.out) (fun hHeld => ?_)
          clear hK K
          try simp only [Act.put, List.getElem_toArray, List.getElem_cons_zero, List.getElem_cons_succ, List.setIfInBounds_toArray, List.set_cons_zero, List.set_cons_succ]
          refine wpAnyH_take (i := 13) (oi := _) (v := ?_) rfl (by kernel_rfl) (by kernel_rfl) (by kernel_rfl) (fun _ _ _ h => h) (Or.inl ⟨by rfl, ?_⟩) (by assumption) ?_
          rotate_left
          · (intro w hSw; (try dsimp only at hSw); go_simp; try with_reducible rfl)
          try simp only [Act.put, List.getElem_toArray, List.getElem_cons_zero, List.getElem_cons_succ, List.setIfInBounds_toArray, List.set_cons_zero, List.set_cons_succ]
          refine wpAnyH_take (i := 14) (oi := _) (v := ?_) rfl (by kernel_rfl) (by kernel_rfl) (by kernel_rfl) (fun _ _ _ h => h) (Or.inl ⟨by rfl, ?_⟩) (by assumption) ?_
          rotate_left
          · (intro w hSw; (try dsimp only at hSw); go_simp; try with_reducible rfl)
          try simp only [Act.put, List.getElem_toArray, List.getElem_cons_zero, List.getElem_cons_succ, List.setIfInBounds_toArray, List.set_cons_zero, List.set_cons_succ]
          refine wpAnyH_take (i := 15) (oi := _) (v := ?_) rfl (by kernel_rfl) (by kernel_rfl) (by kernel_rfl) (fun _ _ _ h => h) (Or.inl ⟨by rfl, ?_⟩) (by assumption) ?_
          rotate_left
          · (intro w hSw; (try dsimp only at hSw); go_simp; try with_reducible rfl)
          try simp only [Act.put, List.getElem_toArray, List.getElem_cons_zero, List.getElem_cons_succ, List.setIfInBounds_toArray, List.set_cons_zero, List.set_cons_succ]
          refine wpAnyH_ready (rs := [17]) (by kernel_rfl) (by simp) ?_
          refine (AllReadyH.cons (o := _) rfl (fun K hK => ?_) AllReadyH.nil)
          refine step_store_row (by rfl) 30 _ _ (by rfl) q2 #[.string X.verb, .slice A3 X.args.length c3, .string X.body] (by rfl) (by rfl) 30 _ hs.head info30 rfl (by simp [Value.oneCell']) ?_
          replace hs := hs.setR #[.string X.verb, .slice A3 X.args.length c3, .string X.body]
          generalize World.setRow _ _ _ = W at hs ⊢
          try clear hHeld
          refine hK.out _ _ (by (try dsimp only); first | exact zkL hs (i := 0) rfl hJ HC1.out | exact zkL hs (i := 1) rfl hJ HC1.out) (fun hHeld => ?_)
          clear hK K
          try simp only [Act.put, List.getElem_toArray, List.getElem_cons_zero, List.getElem_cons_succ, List.setIfInBounds_toArray, List.set_cons_zero, List.set_cons_succ]
          refine wpAnyH_take (i := 18) (oi := _) (v := ?_) rfl (by kernel_rfl) (by kernel_rfl) (by kernel_rfl) (fun _ _ _ h => h) (Or.inl ⟨by rfl, ?_⟩) (by assumption) ?_
          rotate_left
          · (intro w hSw; (try dsimp only at hSw); go_simp; try with_reducible rfl)
          try simp only [Act.put, List.getElem_toArray, List.getElem_cons_zero, List.getElem_cons_succ, List.setIfInBounds_toArray, List.set_cons_zero, List.set_cons_succ]
          refine wpAnyH_done (by kernel_rfl) ?_ _
          go_wp2
          go_meet
          exact ⟨q2, A3, _, c3, _, rfl, rfl, Lib.hid ⟨hJ, hs⟩⟩
      case rest =>
        obtain ⟨q2, A3, n3, c3, J3, rfl, rfl, HQ2⟩ := hcut
        clear hJ hs HPF HC1
        have HL3 := Lib.hid (HL2.out.trans HQ2.out.1)
        have HS := Lib.hid HQ2.out.2
        obtain ⟨c0, c1, c2, -⟩ := Blk.three (show Blk wc q2 30 #[.string X.verb, .slice A3 n3 c3, .string X.body] from HQ2.out.2.head)
        obtain ⟨d0, d1, d2, -⟩ := Blk.three (show Blk wc q 30 #[.string V, .slice (some ⟨g, o, none⟩) 1 1, .string B] from HQ2.out.2.at 1 rfl)
        clear HQ2 HL2
        rcases HW.out with ⟨b1, b2, b3, rfl, rfl⟩ | ⟨b1, rfl, ⟨b3, rfl⟩ | ⟨b3, rfl⟩⟩
        · have hb := HX.out.1 rfl
          have hn2 := HX.out.2 rfl
          have hn1 : (s'.toList == []) = false := by
            cases hq : s'.toList with
            | nil => rw [hq] at hn2; cases hn2
            | cons => rfl
          obtain rfl : fits = true := HFT.out.trans (decide_eq_true ⟨b1, b2, b3⟩)
          have n8 : decide ((9192 : Int) < (v : Int) + 1 + y + 1 + k) = false := decide_eq_false (by omega)
          rw [hb] at c2
          clear b1 b2 b3 hb HW HX HFT
          go_wp2
          go_ret
          exact Ret.mk HL3.out HS.out rfl
        · obtain rfl : fits = false := HFT.out.trans (decide_eq_false b1)
          have n8 : decide ((9192 : Int) < (v : Int) + 1 + y + 1 + k) = false := decide_eq_false (by omega)
          clear b1 b3 HW HX HFT
          go_wp2
          go_ret
          exact Ret.mk HL3.out HS.out rfl
        · obtain rfl : fits = false := HFT.out.trans (decide_eq_false b1)
          have n8 : decide ((9192 : Int) < (v : Int) + 1 + y + 1 + k) = true := decide_eq_true (by omega)
          clear b1 b3 HW HX HFT
          go_wp2
          go_ret
          exact Ret.mk HL3.out HS.out rfl
end Go.Proofs.YthmamheegkppdaaDoor
