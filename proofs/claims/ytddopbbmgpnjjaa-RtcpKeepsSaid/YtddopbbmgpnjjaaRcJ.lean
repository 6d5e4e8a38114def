/- rostrumref13.good. -/
import Derived.Test.YtddopbbmgpnjjaaRcI
import Derived.Test.YtddopbbmgpnjjaaRcD
namespace Go.Proofs.Ytddopbbmgpnjjaa
open Go.RowKit
set_option linter.unusedSimpArgs false

theorem if_len {α : Type} (c : Prop) [Decidable c] (l : List α) : (if c then l else []).length = (if c then l.length else 0) := by split <;> rfl
theorem if_cells {α : Type} {I : Img} {A : Option Addr} {f : α → List Value} {l : List α} (c : Prop) [Decidable c] (h : Cells I A (flat f l)) : Cells I (if c then A else none) (flat f (if c then l else [])) := by
  split
  · exact h
  · exact Cells.nil _ _
theorem if_le {α : Type} {l : List α} {n : Nat} (c : Prop) [Decidable c] (h : l.length ≤ n) : (if c then l else []).length ≤ n := by
  split
  · exact h
  · exact Nat.zero_le _
/-- SamePacket of a packet and what its kind names -/
theorem sameOnly (I : Img) (M : List Res) (w : World) (kind : Int) (sender : Int) (media : Int) (ntp : Int) (rtp : Int) (pkts : Int) (octs : Int) (base : Int) (ref : Int) (count : Int) (name : ByteArray) (reps : List Rp) (srcs seqs arrs : List Int) (wants : List Wn) (rA : Option Addr) (rz : Nat) (sA : Option Addr) (sz : Nat) (qA : Option Addr) (qz : Nat) (aA : Option Addr) (az : Nat) (wA : Option Addr) (wz : Nat) (hr : Cells I rA (flat repC reps)) (lr : reps.length ≤ 140737488351232) (hs0 : Cells I sA (flat u32C srcs)) (ls : srcs.length ≤ 140737488351232) (hq : Cells I qA (flat u16C seqs)) (lq : seqs.length ≤ 140737488351232) (ha : Cells I aA (flat intC arrs)) (la : arrs.length ≤ 140737488351232) (hw : Cells I wA (flat wnC wants)) (lw : wants.length ≤ 140737488351232) (hst : St I M w) :
    Calls Try.prog 32 #[.agg #[.int .i64 kind, .int .u32 sender, .int .u32 media, .int .u64 ntp, .int .u32 rtp, .int .u32 pkts, .int .u32 octs, .slice rA reps.length rz, .string name, .slice sA srcs.length sz, .slice qA seqs.length qz, .int .u16 base, .int .u32 ref, .int .u8 count, .slice aA arrs.length az, .slice wA wants.length wz], .agg (onlyC kind sender media ntp rtp pkts octs rA reps.length rz name sA srcs.length sz qA seqs.length qz base ref count aA arrs.length az wA wants.length wz)] w (Ret I (fun u J M' => I = J ∧ u = .bool (sameB (⟨kind, sender, media, ntp, rtp, pkts, octs, reps, name, srcs, seqs, base, ref, count, arrs, wants⟩ : Pk) (onlyP (⟨kind, sender, media, ntp, rtp, pkts, octs, reps, name, srcs, seqs, base, ref, count, arrs, wants⟩ : Pk))) ∧ M' = M)) := by
  have h := same32 I M w kind sender media ntp rtp pkts octs base ref count name reps rA rz srcs sA sz seqs qA qz arrs aA az wants wA wz (kind) (if kind = 4 then 0 else sender) (if 5 ≤ kind then media else 0) (if kind = 1 then ntp else 0) (if kind = 1 then rtp else 0) (if kind = 1 then pkts else 0) (if kind = 1 then octs else 0) (if kind = 6 then base else 0) (if kind = 6 then ref else 0) (if kind = 6 then count else 0) (if kind = 3 then name else ⟨#[]⟩) (if kind = 1 ∨ kind = 2 then reps else []) (if kind = 1 ∨ kind = 2 then rA else none) (if kind = 1 ∨ kind = 2 then rz else 0) (if kind = 4 then srcs else []) (if kind = 4 then sA else none) (if kind = 4 then sz else 0) (if kind = 5 then seqs else []) (if kind = 5 then qA else none) (if kind = 5 then qz else 0) (if kind = 6 then arrs else []) (if kind = 6 then aA else none) (if kind = 6 then az else 0) (if kind = 8 then wants else []) (if kind = 8 then wA else none) (if kind = 8 then wz else 0) hr lr (if_cells _ hr) (if_le _ lr) hs0 ls (if_cells _ hs0) (if_le _ ls) hq lq (if_cells _ hq) (if_le _ lq) ha la (if_cells _ ha) (if_le _ la) hw lw (if_cells _ hw) (if_le _ lw) hst
  simp only [if_len] at h
  exact h
theorem bad_rep {p : Pk} {x : Rp} (hx : x ∈ p.reps) (hb : bigT x = true) : ¬ Good p := by
  rintro ⟨hk, he⟩
  by_cases h : p.kind = 1 ∨ p.kind = 2
  · have h1 : p.reps.any bigT = true := List.any_eq_true.2 ⟨x, hx, hb⟩
    unfold KindOk at hk
    rcases hk with hk | hk | hk | hk | hk | hk | hk <;> first | omega | (rw [h1] at hk; simp at hk)
  · have h1 : p.reps = (onlyP p).reps := congrArg Pk.reps he
    unfold onlyP at h1
    simp only [if_neg h] at h1
    rw [h1] at hx
    cases hx
theorem bad_seq {p : Pk} (hb : ¬ Ord p.seqs) : ¬ Good p := by
  rintro ⟨hk, he⟩
  by_cases h : p.kind = 5
  · unfold KindOk at hk
    rcases hk with hk | hk | hk | hk | hk | hk | hk <;> first | omega | exact hb hk.2.1
  · have h1 : p.seqs = (onlyP p).seqs := congrArg Pk.seqs he
    unfold onlyP at h1
    simp only [if_neg h] at h1
    rw [h1] at hb
    exact hb (fun i hi _ => by cases hi)
theorem bad_arr {p : Pk} {x : Int} (hx : x ∈ p.arrs) (hb : badA x = true) : ¬ Good p := by
  rintro ⟨hk, he⟩
  by_cases h : p.kind = 6
  · have h1 : p.arrs.any badA = true := List.any_eq_true.2 ⟨x, hx, hb⟩
    unfold KindOk at hk
    rcases hk with hk | hk | hk | hk | hk | hk | hk <;> first | omega | (rw [h1] at hk; simp at hk)
  · have h1 : p.arrs = (onlyP p).arrs := congrArg Pk.arrs he
    unfold onlyP at h1
    simp only [if_neg h] at h1
    rw [h1] at hx
    cases hx
theorem reps_nil {p : Pk} (he : p = onlyP p) (h : ¬ (p.kind = 1 ∨ p.kind = 2)) : p.reps = [] := by
  have h1 : p.reps = (onlyP p).reps := congrArg Pk.reps he
  unfold onlyP at h1
  simp only [if_neg h] at h1
  exact h1
theorem take56 {a : Act} {o : Oper} {w : World} {q : Nat} {cs : Array Value} (hb : Blk w q 56 cs) (hsz : cs.size = 16) (ho : o.op = .load 56 (.tmp 1)) (hx : a.eval (.tmp 1) = .pointer (some ⟨q, 0, none⟩)) : (execOp a.eval o).run Try.prog w = .ok (.value (.agg cs)) w := by
  obtain ⟨fs, hd⟩ := st56D
  exact row_take 56 _ ho q hx 56 cs (0, 0) _ hb hd rfl (by rw [hsz]; exact st56I)
set_option maxRecDepth 100000 in
set_option maxHeartbeats 20000000 in
theorem goodR (I : Img) (M : List Res) (w : World) (kind : Int) (sender : Int) (media : Int) (ntp : Int) (rtp : Int) (pkts : Int) (octs : Int) (base : Int) (ref : Int) (count : Int) (name : ByteArray) (reps : List Rp) (srcs seqs arrs : List Int) (wants : List Wn) (rA : Option Addr) (rz : Nat) (sA : Option Addr) (sz : Nat) (qA : Option Addr) (qz : Nat) (aA : Option Addr) (az : Nat) (wA : Option Addr) (wz : Nat) (hr : Cells I rA (flat repC reps)) (lr : reps.length ≤ 140737488351232) (hrT : ∀ x ∈ reps, 0 ≤ x.total ∧ x.total ≤ 4294967295) (hq : Cells I qA (flat u16C seqs)) (lq : seqs.length ≤ 140737488351232) (ha : Cells I aA (flat intC arrs)) (la : arrs.length ≤ 140737488351232) (ln : name.size ≤ maxLen) (hs0 : Cells I sA (flat u32C srcs)) (ls : srcs.length ≤ 140737488351232) (hw : Cells I wA (flat wnC wants)) (lw : wants.length ≤ 140737488351232) (hrf : 0 ≤ ref ∧ ref ≤ 4294967295) (hst : St I M w) :
    Calls Try.prog 17 #[.agg #[.int .i64 kind, .int .u32 sender, .int .u32 media, .int .u64 ntp, .int .u32 rtp, .int .u32 pkts, .int .u32 octs, .slice rA reps.length rz, .string name, .slice sA srcs.length sz, .slice qA seqs.length qz, .int .u16 base, .int .u32 ref, .int .u8 count, .slice aA arrs.length az, .slice wA wants.length wz]] w (Ret I (fun u J M' => I = J ∧ u = .bool (goodB (⟨kind, sender, media, ntp, rtp, pkts, octs, reps, name, srcs, seqs, base, ref, count, arrs, wants⟩ : Pk)) ∧ M' = M)) := by
  have hs1 := hst.alloc 56 #[.int .i64 kind, .int .u32 sender, .int .u32 media, .int .u64 ntp, .int .u32 rtp, .int .u32 pkts, .int .u32 octs, .slice rA reps.length rz, .string name, .slice sA srcs.length sz, .slice qA seqs.length qz, .int .u16 base, .int .u32 ref, .int .u8 count, .slice aA arrs.length az, .slice wA wants.length wz]
  have HR := Lib.hid (And.intro hr hrT)
  have HQ := Lib.hid hq
  have HA := Lib.hid ha
  obtain ⟨fs, hd⟩ := st56D
  obtain ⟨S, hS⟩ : ∃ S, S = goodB (⟨kind, sender, media, ntp, rtp, pkts, octs, reps, name, srcs, seqs, base, ref, count, arrs, wants⟩ : Pk) := ⟨_, rfl⟩
  have HSS := Lib.hid hS
  rw [← hS]
  unfold maxLen at ln
  have HC33 := Lib.hid (fun (M1 : List Res) (w1 : World) (h1 : St I M1 w1) => only33 I M1 w1 kind sender media ntp rtp pkts octs rA reps.length rz name sA srcs.length sz qA seqs.length qz base ref count aA arrs.length az wA wants.length wz h1)
  obtain ⟨B, hB⟩ : ∃ B, B = sameB (⟨kind, sender, media, ntp, rtp, pkts, octs, reps, name, srcs, seqs, base, ref, count, arrs, wants⟩ : Pk) (onlyP (⟨kind, sender, media, ntp, rtp, pkts, octs, reps, name, srcs, seqs, base, ref, count, arrs, wants⟩ : Pk)) := ⟨_, rfl⟩
  have HBB := Lib.hid hB
  have HC32 : Hid (∀ (M1 : List Res) (w1 : World), St I M1 w1 → Calls Try.prog 32 #[.agg #[.int .i64 kind, .int .u32 sender, .int .u32 media, .int .u64 ntp, .int .u32 rtp, .int .u32 pkts, .int .u32 octs, .slice rA reps.length rz, .string name, .slice sA srcs.length sz, .slice qA seqs.length qz, .int .u16 base, .int .u32 ref, .int .u8 count, .slice aA arrs.length az, .slice wA wants.length wz], .agg (onlyC kind sender media ntp rtp pkts octs rA reps.length rz name sA srcs.length sz qA seqs.length qz base ref count aA arrs.length az wA wants.length wz)] w1 (Ret I (fun u J M' => I = J ∧ u = .bool B ∧ M' = M1))) := Lib.hid (fun M1 w1 h1 => by rw [hB]; exact sameOnly I M1 w1 kind sender media ntp rtp pkts octs base ref count name reps srcs seqs arrs wants rA rz sA sz qA qz aA az wA wz hr lr hs0 ls hq lq ha la hw lw h1)
  clear hB
  clear hst hS hr hrT hq ha hs0 hw
  go_enter Try.func17, Try.ntmps17
  go_upto_region 1 with fail
  obtain ⟨q1, hq1⟩ : ∃ q, q = w.heap.size := ⟨_, rfl⟩
  rw [← hq1] at hs1 ⊢
  generalize World.alloc w _ = W at hs1 ⊢
  clear hq1
  have HS1 := Lib.hid hs1
  clear hs1
  obtain ⟨hc1, hf1, hl1⟩ := Blk.all (HS1.out.at 0 rfl)
  go_upto_if 20 with fail
  by_cases hin : 1 ≤ kind ∧ kind ≤ 8
  · obtain ⟨hin1, hin8⟩ := hin
    have e1 : decide (kind < 1) = false := decide_eq_false (by omega)
    have e2 : decide (8 < kind) = false := decide_eq_false (by omega)
    refine wp_region_held_drew (S := (fun w' => Blk w' q1 56 #[.int .i64 kind, .int .u32 sender, .int .u32 media, .int .u64 ntp, .int .u32 rtp, .int .u32 pkts, .int .u32 octs, .slice rA reps.length rz, .string name, .slice sA srcs.length sz, .slice qA seqs.length qz, .int .u16 base, .int .u32 ref, .int .u8 count, .slice aA arrs.length az, .slice wA wants.length wz] ∧ w'.cell? ⟨q1, 0, none⟩ = some (.int .i64 kind))) (by kernel_rfl) (by (try dsimp only); first | exact ⟨HS1.out.drew.at 0 rfl, Blk.cell (HS1.out.drew.at 0 rfl) 0⟩ | exact ⟨hs2.at 0 rfl, Blk.cell (hs2.at 0 rfl) 0⟩ | exact ⟨hs3.at 0 rfl, Blk.cell (hs3.at 0 rfl) 0⟩) (fun hHeld => ?_)
    refine wpAnyH_take (i := 0) (oi := _) (v := ?_) rfl (by kernel_rfl) (by kernel_rfl) (by kernel_rfl) (fun _ _ _ h => h) (Or.inl ⟨by rfl, ?_⟩) (by assumption) ?_
    rotate_left
    · (intro w hSw; (try dsimp only at hSw); go_simp; try with_reducible rfl)
    try simp only [Act.put, List.getElem_toArray, List.getElem_cons_zero, List.getElem_cons_succ, List.setIfInBounds_toArray, List.set_cons_zero, List.set_cons_succ]
    refine wpAnyH_take (i := 1) (oi := _) (v := ?_) rfl (by kernel_rfl) (by kernel_rfl) (by kernel_rfl) (fun _ _ _ h => h) (Or.inl ⟨by rfl, ?_⟩) (by assumption) ?_
    rotate_left
    · (intro w hSw; (try dsimp only at hSw); go_simp; try with_reducible rfl)
    try simp only [Act.put, List.getElem_toArray, List.getElem_cons_zero, List.getElem_cons_succ, List.setIfInBounds_toArray, List.set_cons_zero, List.set_cons_succ]
    refine wpAnyH_take (i := 2) (oi := _) (v := ?_) rfl (by kernel_rfl) (by kernel_rfl) (by kernel_rfl) (fun _ _ _ h => h) (Or.inl ⟨by rfl, ?_⟩) (by assumption) ?_
    rotate_left
    · (intro w hSw; (try dsimp only at hSw); go_simp; try with_reducible rfl)
    try simp only [Act.put, List.getElem_toArray, List.getElem_cons_zero, List.getElem_cons_succ, List.setIfInBounds_toArray, List.set_cons_zero, List.set_cons_succ]
    refine wpAnyH_take (i := 3) (oi := _) (v := ?_) rfl (by kernel_rfl) (by kernel_rfl) (by kernel_rfl) (fun _ _ _ h => h) (Or.inl ⟨by rfl, ?_⟩) (by assumption) ?_
    rotate_left
    · (intro w hSw; (try dsimp only at hSw); go_simp; try with_reducible rfl)
    try simp only [Act.put, List.getElem_toArray, List.getElem_cons_zero, List.getElem_cons_succ, List.setIfInBounds_toArray, List.set_cons_zero, List.set_cons_succ]
    refine wpAnyH_take (i := 4) (oi := _) (v := ?_) rfl (by kernel_rfl) (by kernel_rfl) (by kernel_rfl) (fun _ _ _ h => h) (Or.inl ⟨by rfl, ?_⟩) (by assumption) ?_
    rotate_left
    · (intro w hSw; (try dsimp only at hSw); go_simp; try with_reducible rfl)
    try simp only [Act.put, List.getElem_toArray, List.getElem_cons_zero, List.getElem_cons_succ, List.setIfInBounds_toArray, List.set_cons_zero, List.set_cons_succ]
    refine wpAnyH_take (i := 5) (oi := _) (v := ?_) rfl (by kernel_rfl) (by kernel_rfl) (by kernel_rfl) (fun _ _ _ h => h) (Or.inl ⟨by rfl, ?_⟩) (by assumption) ?_
    rotate_left
    · (intro w hSw; (try dsimp only at hSw); go_simp; try with_reducible rfl)
    try simp only [Act.put, List.getElem_toArray, List.getElem_cons_zero, List.getElem_cons_succ, List.setIfInBounds_toArray, List.set_cons_zero, List.set_cons_succ]
    refine wpAnyH_take (i := 6) (oi := _) (v := ?_) rfl (by kernel_rfl) (by kernel_rfl) (by kernel_rfl) (fun _ _ _ h => h) (Or.inl ⟨by rfl, ?_⟩) (by assumption) ?_
    rotate_left
    · (intro w hSw; (try dsimp only at hSw); go_simp; try with_reducible rfl)
    try simp only [Act.put, List.getElem_toArray, List.getElem_cons_zero, List.getElem_cons_succ, List.setIfInBounds_toArray, List.set_cons_zero, List.set_cons_succ]
    refine wpAnyH_take (i := 7) (oi := _) (v := ?_) rfl (by kernel_rfl) (by kernel_rfl) (by kernel_rfl) (fun _ _ _ h => h) (Or.inl ⟨by rfl, ?_⟩) (by assumption) ?_
    rotate_left
    · (intro w hSw; (try dsimp only at hSw); go_simp; try with_reducible rfl)
    try simp only [Act.put, List.getElem_toArray, List.getElem_cons_zero, List.getElem_cons_succ, List.setIfInBounds_toArray, List.set_cons_zero, List.set_cons_succ]
    refine wpAnyH_take (i := 8) (oi := _) (v := ?_) rfl (by kernel_rfl) (by kernel_rfl) (by kernel_rfl) (fun _ _ _ h => h) (Or.inl ⟨by rfl, ?_⟩) (by assumption) ?_
    rotate_left
    · (intro w hSw; (try dsimp only at hSw); go_simp; try with_reducible rfl)
    try simp only [Act.put, List.getElem_toArray, List.getElem_cons_zero, List.getElem_cons_succ, List.setIfInBounds_toArray, List.set_cons_zero, List.set_cons_succ]
    refine wpAnyH_take (i := 9) (oi := _) (v := ?_) rfl (by kernel_rfl) (by kernel_rfl) (by kernel_rfl) (fun _ _ _ h => h) (Or.inl ⟨by rfl, ?_⟩) (by assumption) ?_
    rotate_left
    · (intro w hSw; (try dsimp only at hSw); refine take56 hSw.1 ?_ ?_ ?_ <;> rfl)
    try simp only [Act.put, List.getElem_toArray, List.getElem_cons_zero, List.getElem_cons_succ, List.setIfInBounds_toArray, List.set_cons_zero, List.set_cons_succ]
    refine wpAnyH_take (i := 10) (oi := _) (v := ?_) rfl (by kernel_rfl) (by kernel_rfl) (by kernel_rfl) (fun _ _ _ h => h) (Or.inl ⟨by rfl, ?_⟩) (by assumption) ?_
    rotate_left
    · (intro w hSw; (try dsimp only at hSw); refine take56 hSw.1 ?_ ?_ ?_ <;> rfl)
    try simp only [Act.put, List.getElem_toArray, List.getElem_cons_zero, List.getElem_cons_succ, List.setIfInBounds_toArray, List.set_cons_zero, List.set_cons_succ]
    refine wpAnyH_ready (rs := [11]) (by kernel_rfl) (by simp) ?_
    refine AllReadyH.cons (o := _) rfl (fun K hK => ?_) AllReadyH.nil
    go_simp
    refine (HC33.out _ _ HS1.out.drew).mono ?_; rintro e w2 ⟨_, _, _, rfl, _, hs2, rfl, rfl, rfl⟩
    try clear hHeld
    refine hK.out _ _ (by (try dsimp only); first | exact ⟨HS1.out.drew.at 0 rfl, Blk.cell (HS1.out.drew.at 0 rfl) 0⟩ | exact ⟨hs2.at 0 rfl, Blk.cell (hs2.at 0 rfl) 0⟩ | exact ⟨hs3.at 0 rfl, Blk.cell (hs3.at 0 rfl) 0⟩) (fun hHeld => ?_)
    clear hK K
    try simp only [Act.put, List.getElem_toArray, List.getElem_cons_zero, List.getElem_cons_succ, List.setIfInBounds_toArray, List.set_cons_zero, List.set_cons_succ]
    refine wpAnyH_ready (rs := [12]) (by kernel_rfl) (by simp) ?_
    refine AllReadyH.cons (o := _) rfl (fun K hK => ?_) AllReadyH.nil
    go_simp
    refine (HC32.out _ _ hs2).mono ?_; rintro e w3 ⟨_, _, _, rfl, _, hs3, rfl, rfl, rfl⟩
    try clear hHeld
    refine hK.out _ _ (by (try dsimp only); first | exact ⟨HS1.out.drew.at 0 rfl, Blk.cell (HS1.out.drew.at 0 rfl) 0⟩ | exact ⟨hs2.at 0 rfl, Blk.cell (hs2.at 0 rfl) 0⟩ | exact ⟨hs3.at 0 rfl, Blk.cell (hs3.at 0 rfl) 0⟩) (fun hHeld => ?_)
    clear hK K
    try simp only [Act.put, List.getElem_toArray, List.getElem_cons_zero, List.getElem_cons_succ, List.setIfInBounds_toArray, List.set_cons_zero, List.set_cons_succ]
    refine wpAnyH_take (i := 13) (oi := _) (v := ?_) rfl (by kernel_rfl) (by kernel_rfl) (by kernel_rfl) (fun _ _ _ h => h) (Or.inl ⟨by rfl, ?_⟩) (by assumption) ?_
    rotate_left
    · (intro w hSw; (try dsimp only at hSw); go_simp; try with_reducible rfl)
    try simp only [Act.put, List.getElem_toArray, List.getElem_cons_zero, List.getElem_cons_succ, List.setIfInBounds_toArray, List.set_cons_zero, List.set_cons_succ]
    refine wpAnyH_take (i := 14) (oi := _) (v := ?_) rfl (by kernel_rfl) (by kernel_rfl) (by kernel_rfl) (fun _ _ _ h => h) (Or.inl ⟨by rfl, ?_⟩) (by assumption) ?_
    rotate_left
    · (intro w hSw; (try dsimp only at hSw); go_simp; try with_reducible rfl)
    try simp only [Act.put, List.getElem_toArray, List.getElem_cons_zero, List.getElem_cons_succ, List.setIfInBounds_toArray, List.set_cons_zero, List.set_cons_succ]
    refine wpAnyH_done (by kernel_rfl) ?_ _
    have HS4 := Lib.hid hs3
    clear hc1 hf1 hl1 hHeld hs2 hs3 HS1 HC33 HC32
    have HS1 := HS4
    clear HS4
    obtain ⟨hc1, hf1, hl1⟩ := Blk.all (HS1.out.at 0 rfl)
    cases B
    · have HE := Lib.hid (HSS.out.trans (goodB_no (fun g => by have h := HBB.out; rw [sameB_yes g.2] at h; cases h)))
      go_wp2
      go_returns
      exact Ret.mk (.refl I) HS1.out.drop ⟨rfl, congrArg Value.bool HE.out.symm, rfl⟩
    · have HEQ := Lib.hid (show (⟨kind, sender, media, ntp, rtp, pkts, octs, reps, name, srcs, seqs, base, ref, count, arrs, wants⟩ : Pk) = onlyP (⟨kind, sender, media, ntp, rtp, pkts, octs, reps, name, srcs, seqs, base, ref, count, arrs, wants⟩ : Pk) from Classical.byContradiction (fun h => by have e := HBB.out; rw [sameB_no h] at e; cases e))
      go_upto_block 0 with fail
      clear hc1 hf1 hl1
      go_cut [] (fun wx => St I (bk q1 56 #[.int .i64 kind, .int .u32 sender, .int .u32 media, .int .u64 ntp, .int .u32 rtp, .int .u32 pkts, .int .u32 octs, .slice rA reps.length rz, .string name, .slice sA srcs.length sz, .slice qA seqs.length qz, .int .u16 base, .int .u32 ref, .int .u8 count, .slice aA arrs.length az, .slice wA wants.length wz] :: M) wx ∧ reps.any bigT = false)
      case first =>
        obtain ⟨hc1, hf1, hl1⟩ := Blk.all (HS1.out.at 0 rfl)
        go_wp2_with fail
        go_loopw [24] (fun iv wr => ∃ k : Nat, k ≤ reps.length ∧ iv = .int .i64 k ∧ Hid ((∀ i (h : i < reps.length), i < k → bigT reps[i] = false) ∧ wr = w3)) (fun iv _ => reps.length - (intOf iv).toNat)
        case atStart => exact ⟨0, Nat.zero_le _, rfl, fun j _ h => by omega, rfl⟩
        case round =>
          obtain ⟨k, hk, rfl, hh⟩ := hrel
          obtain ⟨hno, hw⟩ := hh.out
          subst hw
          have HNO := Lib.hid hno
          clear hh hno
          by_cases hlt : k < reps.length
          · obtain ⟨g, o, rfl, hcell⟩ := flat_get (s := 7) (fun _ => rfl) HR.out.1 (by omega) (by decide)
            replace hcell : wr.cell? ⟨g, o + k * 7 + 2, none⟩ = some (.int .u32 reps[k].total) := hcell _ _ HS1.out k hlt 2 (by decide)
            obtain ⟨x, hx⟩ : ∃ x, x = reps[k] := ⟨_, rfl⟩
            have hmem := List.getElem_mem hlt
            rw [← hx] at hcell hmem
            have hT := HR.out.2 x hmem
            have HX := Lib.hid hx
            obtain ⟨hT0, hT1⟩ := hT
            clear hx
            by_cases h24 : x.total < 16777216
            · have hd1 : decide (16777216 ≤ x.total) = false := decide_eq_false (by omega)
              have HNO2 := Lib.hid (show ∀ i (h : i < reps.length), i < k + 1 → bigT reps[i] = false from fun i h h1 => by
                by_cases e : i = k
                · subst e; rw [← HX.out]; exact hd1
                · exact HNO.out i h (by omega))
              go_wp2
              go_roundw
              case rel => exact ⟨k + 1, by omega, by go_num, HNO2.out, trivial⟩
              case measure => simp [intOf]; omega
            · have hd1 : decide (16777216 ≤ x.total) = true := decide_eq_true (by omega)
              have HE := Lib.hid (HSS.out.trans (goodB_no (bad_rep (p := (⟨kind, sender, media, ntp, rtp, pkts, octs, reps, name, srcs, seqs, base, ref, count, arrs, wants⟩ : Pk)) hmem hd1)))
              go_wp2
              go_returns
              exact Ret.mk (.refl I) HS1.out.drop ⟨rfl, congrArg Value.bool HE.out.symm, rfl⟩
          · have HNO2 := Lib.hid (show reps.any bigT = false from by
              rw [List.any_eq_false]
              intro x hx
              obtain ⟨i, hi, rfl⟩ := List.getElem_of_mem hx
              rw [HNO.out i hi (by omega)]; simp)
            go_wp2
            go_meet
            exact ⟨HS1.out, HNO2.out⟩
      case rest =>
        obtain ⟨hs, ha1⟩ := hcut
        have HA1 := Lib.hid ha1
        clear HS1 ha1
        have HS1 := Lib.hid hs
        clear hs
        obtain ⟨hc1, hf1, hl1⟩ := Blk.all (HS1.out.at 0 rfl)
        go_upto_block 2 with fail
        clear hc1 hf1 hl1
        go_cut [] (fun wx => St I (bk q1 56 #[.int .i64 kind, .int .u32 sender, .int .u32 media, .int .u64 ntp, .int .u32 rtp, .int .u32 pkts, .int .u32 octs, .slice rA reps.length rz, .string name, .slice sA srcs.length sz, .slice qA seqs.length qz, .int .u16 base, .int .u32 ref, .int .u8 count, .slice aA arrs.length az, .slice wA wants.length wz] :: M) wx ∧ Ord seqs)
        case first =>
          go_wp2_with fail
          go_loopw [38] (fun iv wr => ∃ k : Nat, k ≤ seqs.length ∧ iv = .int .i64 k ∧ Hid ((∀ i (h : i < seqs.length) (_ : 0 < i), i < k → beforeB (seqs[i - 1]'(by omega)) seqs[i] = true ∧ beforeB (seqs[0]'(by omega)) seqs[i] = true) ∧ St I (bk q1 56 #[.int .i64 kind, .int .u32 sender, .int .u32 media, .int .u64 ntp, .int .u32 rtp, .int .u32 pkts, .int .u32 octs, .slice rA reps.length rz, .string name, .slice sA srcs.length sz, .slice qA seqs.length qz, .int .u16 base, .int .u32 ref, .int .u8 count, .slice aA arrs.length az, .slice wA wants.length wz] :: M) wr)) (fun iv _ => seqs.length - (intOf iv).toNat)
          case atStart => exact ⟨0, Nat.zero_le _, rfl, fun j _ _ h => by omega, HS1.out⟩
          case round =>
            obtain ⟨k, hk, rfl, hh⟩ := hrel
            obtain ⟨hno, hs⟩ := hh.out
            have HNO := Lib.hid hno
            have HS2 := Lib.hid hs
            clear hh hno HS1 hs
            obtain ⟨hc1, hf1, hl1⟩ := Blk.all (HS2.out.at 0 rfl)
            by_cases hlt : k < seqs.length
            · obtain ⟨g, o, rfl, hcell⟩ := flat_get (s := 1) (fun _ => rfl) HQ.out (by omega) (by decide)
              replace hcell : ∀ j (h : j < seqs.length), wr.cell? ⟨g, o + j, none⟩ = some (.int .u16 seqs[j]) := fun j h => by
                have := hcell _ _ HS2.out j h 0 (by decide)
                simpa using this
              rcases Nat.eq_zero_or_pos k with rfl | hpos
              · have HNO2 := Lib.hid (show ∀ i (h : i < seqs.length) (_ : 0 < i), i < 0 + 1 → beforeB (seqs[i - 1]'(by omega)) seqs[i] = true ∧ beforeB (seqs[0]'(by omega)) seqs[i] = true from fun i h h0 h1 => by omega)
                clear hcell
                go_wp2
                go_quiet (fail)
                have HS3 := Lib.hid (HS2.out.drewN nq)
                clear HS2 hc1 hf1 hl1
                go_wp2
                go_roundw
                case rel => exact ⟨1, by omega, rfl, HNO2.out, HS3.out⟩
                case measure => simp [intOf]; omega
              · obtain ⟨j, rfl⟩ : ∃ j, k = j + 1 := ⟨k - 1, by omega⟩
                have zk := hcell (j + 1) hlt
                have zj := hcell j (by omega)
                have z0 : wr.cell? ⟨g, o, none⟩ = some (.int .u16 (seqs[0]'(by omega))) := hcell 0 (by omega)
                clear hcell
                obtain ⟨xk, hxk⟩ : ∃ x, x = seqs[j + 1] := ⟨_, rfl⟩
                obtain ⟨xj, hxj⟩ : ∃ x, x = seqs[j]'(by omega) := ⟨_, rfl⟩
                obtain ⟨x0, hx0⟩ : ∃ x, x = seqs[0]'(by omega) := ⟨_, rfl⟩
                rw [← hxk] at zk
                rw [← hxj] at zj
                rw [← hx0] at z0
                have HXK := Lib.hid hxk
                have HXJ := Lib.hid hxj
                have HX0 := Lib.hid hx0
                clear hxk hxj hx0
                have hj1 : (j : Int) + 1 < seqs.length := by omega
                have hj2 : (0 : Int) < (j : Int) + 1 := by omega
                have hj3 : (j : Int) < seqs.length := by omega
                have hj4 : (j : Int) + 1 ≤ 140737488351232 := by omega
                have hw1 : IntKind.i64.wrap ((j : Int) + 1 - 1) = (j : Int) := by rw [show (j : Int) + 1 - 1 = (j : Int) by omega]; exact IntWalk.i64_in _ (by omega)
                have hw2 : IntKind.i64.wrap (j : Int) = (j : Int) := IntWalk.i64_in _ (by omega)
                have HB1 := Lib.hid (show ∀ n, Calls Try.prog 34 #[.int .u16 xj, .int .u16 xk] (wr.drewN n) fun e w' => e = .returned (.bool (beforeB xj xk)) ∧ w' = wr.drewN n from fun n => (beforeR xj xk _).mono fun _ _ h => ⟨h.1, h.2.symm⟩)
                have HB2 := Lib.hid (show ∀ n, Calls Try.prog 34 #[.int .u16 x0, .int .u16 xk] (wr.drewN n) fun e w' => e = .returned (.bool (beforeB x0 xk)) ∧ w' = wr.drewN n from fun n => (beforeR x0 xk _).mono fun _ _ h => ⟨h.1, h.2.symm⟩)
                cases hb1 : beforeB xj xk
                · have HE := Lib.hid (HSS.out.trans (goodB_no (bad_seq (p := (⟨kind, sender, media, ntp, rtp, pkts, octs, reps, name, srcs, seqs, base, ref, count, arrs, wants⟩ : Pk)) (fun h => by
                    have h2 := (h (j + 1) hlt (by omega)).1
                    have e : beforeB xj xk = true := by rw [HXK.out, HXJ.out]; exact h2
                    rw [hb1] at e; cases e))))
                  rw [hb1] at HB1
                  go_wp2
                  go_quiet ((go_at_call 34; with_reducible exact Calls.quiet_of_same (HB1.out _)))
                  have HS3 := Lib.hid (HS2.out.drewN nq)
                  go_wp2
                  go_returns
                  exact Ret.mk (.refl I) HS3.out.drop ⟨rfl, congrArg Value.bool HE.out.symm, rfl⟩
                · cases hb2 : beforeB x0 xk
                  · have HE := Lib.hid (HSS.out.trans (goodB_no (bad_seq (p := (⟨kind, sender, media, ntp, rtp, pkts, octs, reps, name, srcs, seqs, base, ref, count, arrs, wants⟩ : Pk)) (fun h => by
                      have h2 := (h (j + 1) hlt (by omega)).2
                      have e : beforeB x0 xk = true := by rw [HXK.out, HX0.out]; exact h2
                      rw [hb2] at e; cases e))))
                    rw [hb1] at HB1
                    rw [hb2] at HB2
                    go_wp2
                    go_quiet ((first | (go_at_call 34; with_reducible exact Calls.quiet_of_same (HB1.out _)) | (go_at_call 34; with_reducible exact Calls.quiet_of_same (HB2.out _))))
                    have HS3 := Lib.hid (HS2.out.drewN nq)
                    go_wp2
                    go_returns
                    exact Ret.mk (.refl I) HS3.out.drop ⟨rfl, congrArg Value.bool HE.out.symm, rfl⟩
                  · have HNO2 := Lib.hid (show ∀ i (h : i < seqs.length) (_ : 0 < i), i < j + 1 + 1 → beforeB (seqs[i - 1]'(by omega)) seqs[i] = true ∧ beforeB (seqs[0]'(by omega)) seqs[i] = true from fun i h h0 h1 => by
                      by_cases e : i = j + 1
                      · subst e; exact ⟨by have := hb1; rw [HXK.out, HXJ.out] at this; exact this, by have := hb2; rw [HXK.out, HX0.out] at this; exact this⟩
                      · exact HNO.out i h h0 (by omega))
                    rw [hb1] at HB1
                    rw [hb2] at HB2
                    go_wp2
                    go_quiet ((first | (go_at_call 34; with_reducible exact Calls.quiet_of_same (HB1.out _)) | (go_at_call 34; with_reducible exact Calls.quiet_of_same (HB2.out _))))
                    have HS3 := Lib.hid (HS2.out.drewN nq)
                    clear HS2 hc1 hf1 hl1 zk zj z0
                    go_wp2
                    go_roundw
                    case rel => exact ⟨j + 1 + 1, by omega, by go_num, HNO2.out, HS3.out⟩
                    case measure => simp [intOf]; omega
            · have HNO2 := Lib.hid (show Ord seqs from fun i h h0 => HNO.out i h h0 (by omega))
              go_wp2
              go_meet
              exact ⟨HS2.out, HNO2.out⟩
        case rest =>
          obtain ⟨hs, ha1⟩ := hcut
          have HA2 := Lib.hid ha1
          clear HS1 ha1
          have HS1 := Lib.hid hs
          clear hs

          obtain ⟨hc1, hf1, hl1⟩ := Blk.all (HS1.out.at 0 rfl)
          go_upto_block 4 with fail
          clear hc1 hf1 hl1
          go_cut [] (fun wx => St I (bk q1 56 #[.int .i64 kind, .int .u32 sender, .int .u32 media, .int .u64 ntp, .int .u32 rtp, .int .u32 pkts, .int .u32 octs, .slice rA reps.length rz, .string name, .slice sA srcs.length sz, .slice qA seqs.length qz, .int .u16 base, .int .u32 ref, .int .u8 count, .slice aA arrs.length az, .slice wA wants.length wz] :: M) wx ∧ arrs.any badA = false)
          case first =>
            obtain ⟨hc1, hf1, hl1⟩ := Blk.all (HS1.out.at 0 rfl)
            obtain ⟨wo, hwo⟩ : ∃ wo : World, wo = wc := ⟨_, rfl⟩
            rw [← hwo] at hc1 hf1 hl1 HS1 ⊢
            clear hwo
            go_wp2_with fail
            go_loopw [75] (fun iv wr => ∃ k : Nat, k ≤ arrs.length ∧ iv = .int .i64 k ∧ Hid ((∀ i (h : i < arrs.length), i < k → badA arrs[i] = false) ∧ wr = wo)) (fun iv _ => arrs.length - (intOf iv).toNat)
            case atStart => exact ⟨0, Nat.zero_le _, rfl, fun j _ h => by omega, rfl⟩
            case round =>
              obtain ⟨k, hk, rfl, hh⟩ := hrel
              obtain ⟨hno, hw⟩ := hh.out
              subst hw
              have HNO := Lib.hid hno
              clear hh hno
              by_cases hlt : k < arrs.length
              · obtain ⟨g, o, rfl, hcell⟩ := flat_get (s := 1) (fun _ => rfl) HA.out (by omega) (by decide)
                replace hcell : wr.cell? ⟨g, o + k, none⟩ = some (.int .i64 arrs[k]) := by
                  have := hcell _ _ HS1.out k hlt 0 (by decide)
                  simpa using this
                obtain ⟨x, hx⟩ : ∃ x, x = arrs[k] := ⟨_, rfl⟩
                have hmem := List.getElem_mem hlt
                rw [← hx] at hcell hmem
                have HX := Lib.hid hx
                clear hx
                cases hb : badA x
                · have HNO2 := Lib.hid (show ∀ i (h : i < arrs.length), i < k + 1 → badA arrs[i] = false from fun i h h1 => by
                    by_cases e : i = k
                    · subst e; rw [← HX.out]; exact hb
                    · exact HNO.out i h (by omega))
                  by_cases h1 : x = 65536
                  · have g1 : (x != 65536) = false := by rw [h1]; rfl
                    clear hb h1
                    go_wp2
                    go_roundw
                    case rel => exact ⟨k + 1, by omega, by go_num, HNO2.out, trivial⟩
                    case measure => simp [intOf]; omega
                  · have g1 : (x != 65536) = true := by simpa using h1
                    have hw := hb
                    unfold badA at hw
                    rw [g1, Bool.true_and, Bool.not_eq_false'] at hw
                    have hw := within_yes hw
                    have g2 : decide (x < -32768) = false := decide_eq_false (by omega)
                    have g3 : decide (32767 < x) = false := decide_eq_false (by omega)
                    clear hb h1 hw
                    go_wp2
                    go_roundw
                    case rel => exact ⟨k + 1, by omega, by go_num, HNO2.out, trivial⟩
                    case measure => simp [intOf]; omega
                · have HE := Lib.hid (HSS.out.trans (goodB_no (bad_arr (p := (⟨kind, sender, media, ntp, rtp, pkts, octs, reps, name, srcs, seqs, base, ref, count, arrs, wants⟩ : Pk)) hmem hb)))
                  have hw := hb
                  unfold badA at hw
                  rw [Bool.and_eq_true, Bool.not_eq_true'] at hw
                  have g1 := hw.1
                  have hw := within_no hw.2
                  by_cases h2 : x < -32768
                  · have g2 : decide (x < -32768) = true := decide_eq_true h2
                    clear hb hw
                    go_wp2
                    go_returns
                    exact Ret.mk (.refl I) HS1.out.drop ⟨rfl, congrArg Value.bool HE.out.symm, rfl⟩
                  · have g2 : decide (x < -32768) = false := decide_eq_false h2
                    have g3 : decide (32767 < x) = true := decide_eq_true (by omega)
                    clear hb hw h2
                    go_wp2
                    go_returns
                    exact Ret.mk (.refl I) HS1.out.drop ⟨rfl, congrArg Value.bool HE.out.symm, rfl⟩
              · have HNO2 := Lib.hid (show arrs.any badA = false from by
                  rw [List.any_eq_false]
                  intro x hx
                  obtain ⟨i, hi, rfl⟩ := List.getElem_of_mem hx
                  rw [HNO.out i hi (by omega)]; simp)
                go_wp2
                go_meet
                exact ⟨HS1.out, HNO2.out⟩
          case rest =>
            obtain ⟨hs, ha1⟩ := hcut
            have HA3 := Lib.hid ha1
            clear HS1 ha1
            have HS1 := Lib.hid hs
            clear hs
            obtain ⟨hc1, hf1, hl1⟩ := Blk.all (HS1.out.at 0 rfl)
            have HIN := Lib.hid (show kind = 1 ∨ kind = 2 ∨ kind = 3 ∨ kind = 4 ∨ kind = 5 ∨ kind = 6 ∨ kind = 7 ∨ kind = 8 by omega)
            clear hin1 hin8 e1 e2
            rcases HIN.out with rfl | rfl | rfl | rfl | rfl | rfl | rfl | rfl
            · skip
              by_cases h0 : reps.length ≤ 31
              · have g0 : decide ((reps.length : Int) ≤ 31) = true := decide_eq_true (by omega)
                have H0 := Lib.hid h0
                clear h0
                have HE := Lib.hid (HSS.out.trans (goodB_yes ⟨.inl ⟨.inl rfl, HA1.out, H0.out⟩, HEQ.out⟩))
                go_wp2
                go_returns
                exact Ret.mk (.refl I) HS1.out.drop ⟨rfl, congrArg Value.bool HE.out.symm, rfl⟩
              · have g0 : decide ((reps.length : Int) ≤ 31) = false := decide_eq_false (by omega)
                have H0 := Lib.hid h0
                clear h0
                have HE := Lib.hid (HSS.out.trans (goodB_bad (fun h => by unfold KindOk at h; simp only [] at h; have := H0.out; rcases h with h | h | h | h | h | h | h <;> omega)))
                go_wp2
                go_returns
                exact Ret.mk (.refl I) HS1.out.drop ⟨rfl, congrArg Value.bool HE.out.symm, rfl⟩
            · skip
              by_cases h0 : reps.length ≤ 31
              · have g0 : decide ((reps.length : Int) ≤ 31) = true := decide_eq_true (by omega)
                have H0 := Lib.hid h0
                clear h0
                have HE := Lib.hid (HSS.out.trans (goodB_yes ⟨.inl ⟨.inr rfl, HA1.out, H0.out⟩, HEQ.out⟩))
                go_wp2
                go_returns
                exact Ret.mk (.refl I) HS1.out.drop ⟨rfl, congrArg Value.bool HE.out.symm, rfl⟩
              · have g0 : decide ((reps.length : Int) ≤ 31) = false := decide_eq_false (by omega)
                have H0 := Lib.hid h0
                clear h0
                have HE := Lib.hid (HSS.out.trans (goodB_bad (fun h => by unfold KindOk at h; simp only [] at h; have := H0.out; rcases h with h | h | h | h | h | h | h <;> omega)))
                go_wp2
                go_returns
                exact Ret.mk (.refl I) HS1.out.drop ⟨rfl, congrArg Value.bool HE.out.symm, rfl⟩
            · skip
              by_cases h0 : 1 ≤ name.size
              · have g0 : decide (1 ≤ (name.size : Int)) = true := decide_eq_true (by omega)
                have H0 := Lib.hid h0
                clear h0
                by_cases h1 : name.size ≤ 64
                · have g1 : decide ((name.size : Int) ≤ 64) = true := decide_eq_true (by omega)
                  have H1 := Lib.hid h1
                  clear h1
                  have HE := Lib.hid (HSS.out.trans (goodB_yes ⟨.inr (.inl ⟨rfl, H0.out, H1.out⟩), HEQ.out⟩))
                  go_wp2
                  go_returns
                  exact Ret.mk (.refl I) HS1.out.drop ⟨rfl, congrArg Value.bool HE.out.symm, rfl⟩
                · have g1 : decide ((name.size : Int) ≤ 64) = false := decide_eq_false (by omega)
                  have H1 := Lib.hid h1
                  clear h1
                  have HE := Lib.hid (HSS.out.trans (goodB_bad (fun h => by unfold KindOk at h; simp only [] at h; have := H1.out; rcases h with h | h | h | h | h | h | h <;> omega)))
                  go_wp2
                  go_returns
                  exact Ret.mk (.refl I) HS1.out.drop ⟨rfl, congrArg Value.bool HE.out.symm, rfl⟩
              · have g0 : decide (1 ≤ (name.size : Int)) = false := decide_eq_false (by omega)
                have H0 := Lib.hid h0
                clear h0
                have HE := Lib.hid (HSS.out.trans (goodB_bad (fun h => by unfold KindOk at h; simp only [] at h; have := H0.out; rcases h with h | h | h | h | h | h | h <;> omega)))
                go_wp2
                go_returns
                exact Ret.mk (.refl I) HS1.out.drop ⟨rfl, congrArg Value.bool HE.out.symm, rfl⟩
            · skip
              by_cases h0 : 1 ≤ srcs.length
              · have g0 : decide (1 ≤ (srcs.length : Int)) = true := decide_eq_true (by omega)
                have H0 := Lib.hid h0
                clear h0
                by_cases h1 : srcs.length ≤ 31
                · have g1 : decide ((srcs.length : Int) ≤ 31) = true := decide_eq_true (by omega)
                  have H1 := Lib.hid h1
                  clear h1
                  have HE := Lib.hid (HSS.out.trans (goodB_yes ⟨.inr (.inr (.inl ⟨rfl, H0.out, H1.out⟩)), HEQ.out⟩))
                  go_wp2
                  go_returns
                  exact Ret.mk (.refl I) HS1.out.drop ⟨rfl, congrArg Value.bool HE.out.symm, rfl⟩
                · have g1 : decide ((srcs.length : Int) ≤ 31) = false := decide_eq_false (by omega)
                  have H1 := Lib.hid h1
                  clear h1
                  have HE := Lib.hid (HSS.out.trans (goodB_bad (fun h => by unfold KindOk at h; simp only [] at h; have := H1.out; rcases h with h | h | h | h | h | h | h <;> omega)))
                  go_wp2
                  go_returns
                  exact Ret.mk (.refl I) HS1.out.drop ⟨rfl, congrArg Value.bool HE.out.symm, rfl⟩
              · have g0 : decide (1 ≤ (srcs.length : Int)) = false := decide_eq_false (by omega)
                have H0 := Lib.hid h0
                clear h0
                have HE := Lib.hid (HSS.out.trans (goodB_bad (fun h => by unfold KindOk at h; simp only [] at h; have := H0.out; rcases h with h | h | h | h | h | h | h <;> omega)))
                go_wp2
                go_returns
                exact Ret.mk (.refl I) HS1.out.drop ⟨rfl, congrArg Value.bool HE.out.symm, rfl⟩
            · skip
              by_cases h0 : 1 ≤ seqs.length
              · have g0 : decide (1 ≤ (seqs.length : Int)) = true := decide_eq_true (by omega)
                have H0 := Lib.hid h0
                clear h0
                by_cases h1 : seqs.length ≤ 32
                · have g1 : decide ((seqs.length : Int) ≤ 32) = true := decide_eq_true (by omega)
                  have H1 := Lib.hid h1
                  clear h1
                  have HE := Lib.hid (HSS.out.trans (goodB_yes ⟨.inr (.inr (.inr (.inl ⟨rfl, HA2.out, H0.out, H1.out⟩))), HEQ.out⟩))
                  go_wp2
                  go_returns
                  exact Ret.mk (.refl I) HS1.out.drop ⟨rfl, congrArg Value.bool HE.out.symm, rfl⟩
                · have g1 : decide ((seqs.length : Int) ≤ 32) = false := decide_eq_false (by omega)
                  have H1 := Lib.hid h1
                  clear h1
                  have HE := Lib.hid (HSS.out.trans (goodB_bad (fun h => by unfold KindOk at h; simp only [] at h; have := H1.out; rcases h with h | h | h | h | h | h | h <;> omega)))
                  go_wp2
                  go_returns
                  exact Ret.mk (.refl I) HS1.out.drop ⟨rfl, congrArg Value.bool HE.out.symm, rfl⟩
              · have g0 : decide (1 ≤ (seqs.length : Int)) = false := decide_eq_false (by omega)
                have H0 := Lib.hid h0
                clear h0
                have HE := Lib.hid (HSS.out.trans (goodB_bad (fun h => by unfold KindOk at h; simp only [] at h; have := H0.out; rcases h with h | h | h | h | h | h | h <;> omega)))
                go_wp2
                go_returns
                exact Ret.mk (.refl I) HS1.out.drop ⟨rfl, congrArg Value.bool HE.out.symm, rfl⟩
            · skip
              by_cases h0 : ref < 16777216
              · have g0 : decide (ref < 16777216) = true := decide_eq_true (by omega)
                have H0 := Lib.hid h0
                clear h0
                by_cases h1 : 1 ≤ arrs.length
                · have g1 : decide (1 ≤ (arrs.length : Int)) = true := decide_eq_true (by omega)
                  have H1 := Lib.hid h1
                  clear h1
                  by_cases h2 : arrs.length ≤ 255
                  · have g2 : decide ((arrs.length : Int) ≤ 255) = true := decide_eq_true (by omega)
                    have H2 := Lib.hid h2
                    clear h2
                    have HE := Lib.hid (HSS.out.trans (goodB_yes ⟨.inr (.inr (.inr (.inr (.inl ⟨rfl, HA3.out, H1.out, H2.out, H0.out⟩)))), HEQ.out⟩))
                    go_wp2
                    go_returns
                    exact Ret.mk (.refl I) HS1.out.drop ⟨rfl, congrArg Value.bool HE.out.symm, rfl⟩
                  · have g2 : decide ((arrs.length : Int) ≤ 255) = false := decide_eq_false (by omega)
                    have H2 := Lib.hid h2
                    clear h2
                    have HE := Lib.hid (HSS.out.trans (goodB_bad (fun h => by unfold KindOk at h; simp only [] at h; have := H2.out; rcases h with h | h | h | h | h | h | h <;> omega)))
                    go_wp2
                    go_returns
                    exact Ret.mk (.refl I) HS1.out.drop ⟨rfl, congrArg Value.bool HE.out.symm, rfl⟩
                · have g1 : decide (1 ≤ (arrs.length : Int)) = false := decide_eq_false (by omega)
                  have H1 := Lib.hid h1
                  clear h1
                  have HE := Lib.hid (HSS.out.trans (goodB_bad (fun h => by unfold KindOk at h; simp only [] at h; have := H1.out; rcases h with h | h | h | h | h | h | h <;> omega)))
                  go_wp2
                  go_returns
                  exact Ret.mk (.refl I) HS1.out.drop ⟨rfl, congrArg Value.bool HE.out.symm, rfl⟩
              · have g0 : decide (ref < 16777216) = false := decide_eq_false (by omega)
                have H0 := Lib.hid h0
                clear h0
                have HE := Lib.hid (HSS.out.trans (goodB_bad (fun h => by unfold KindOk at h; simp only [] at h; have := H0.out; rcases h with h | h | h | h | h | h | h <;> omega)))
                go_wp2
                go_returns
                exact Ret.mk (.refl I) HS1.out.drop ⟨rfl, congrArg Value.bool HE.out.symm, rfl⟩
            · have HRN := Lib.hid (reps_nil HEQ.out (by simp))
              have g0 : decide ((reps.length : Int) ≤ 31) = true := decide_eq_true (by rw [show reps = [] from HRN.out]; decide)
              have HE := Lib.hid (HSS.out.trans (goodB_yes ⟨.inr (.inr (.inr (.inr (.inr (.inl rfl))))), HEQ.out⟩))
              go_wp2
              go_returns
              exact Ret.mk (.refl I) HS1.out.drop ⟨rfl, congrArg Value.bool HE.out.symm, rfl⟩
            · skip
              by_cases h0 : 1 ≤ wants.length
              · have g0 : decide (1 ≤ (wants.length : Int)) = true := decide_eq_true (by omega)
                have H0 := Lib.hid h0
                clear h0
                by_cases h1 : wants.length ≤ 8
                · have g1 : decide ((wants.length : Int) ≤ 8) = true := decide_eq_true (by omega)
                  have H1 := Lib.hid h1
                  clear h1
                  have HE := Lib.hid (HSS.out.trans (goodB_yes ⟨.inr (.inr (.inr (.inr (.inr (.inr ⟨rfl, H0.out, H1.out⟩))))), HEQ.out⟩))
                  go_wp2
                  go_returns
                  exact Ret.mk (.refl I) HS1.out.drop ⟨rfl, congrArg Value.bool HE.out.symm, rfl⟩
                · have g1 : decide ((wants.length : Int) ≤ 8) = false := decide_eq_false (by omega)
                  have H1 := Lib.hid h1
                  clear h1
                  have HE := Lib.hid (HSS.out.trans (goodB_bad (fun h => by unfold KindOk at h; simp only [] at h; have := H1.out; rcases h with h | h | h | h | h | h | h <;> omega)))
                  go_wp2
                  go_returns
                  exact Ret.mk (.refl I) HS1.out.drop ⟨rfl, congrArg Value.bool HE.out.symm, rfl⟩
              · have g0 : decide (1 ≤ (wants.length : Int)) = false := decide_eq_false (by omega)
                have H0 := Lib.hid h0
                clear h0
                have HE := Lib.hid (HSS.out.trans (goodB_bad (fun h => by unfold KindOk at h; simp only [] at h; have := H0.out; rcases h with h | h | h | h | h | h | h <;> omega)))
                go_wp2
                go_returns
                exact Ret.mk (.refl I) HS1.out.drop ⟨rfl, congrArg Value.bool HE.out.symm, rfl⟩
  · have HE := Lib.hid (HSS.out.trans (goodB_bad (fun h => by unfold KindOk at h; simp only [] at h; omega)))
    by_cases h1 : kind < 1
    · have e1 : decide (kind < 1) = true := decide_eq_true h1
      go_quiet (fail)
      have HS2 := Lib.hid (HS1.out.drewN nq)
      go_wp2
      go_returns
      exact Ret.mk (.refl I) HS2.out.drop ⟨rfl, congrArg Value.bool HE.out.symm, rfl⟩
    · have e1 : decide (kind < 1) = false := decide_eq_false h1
      have e2 : decide (8 < kind) = true := decide_eq_true (by omega)
      go_quiet (fail)
      have HS2 := Lib.hid (HS1.out.drewN nq)
      go_wp2
      go_returns
      exact Ret.mk (.refl I) HS2.out.drop ⟨rfl, congrArg Value.bool HE.out.symm, rfl⟩
end Go.Proofs.Ytddopbbmgpnjjaa
