/- rostrumref13.SamePacket. -/
import Derived.Test.YtddopbbmgpnjjaaRcE
import Derived.Deep.CutBlock
namespace Go.Proofs.Ytddopbbmgpnjjaa
open Go.RowKit
set_option linter.unusedSimpArgs false

def eqRp (x y : Rp) : Bool := (x.src == y.src) && ((x.lost == y.lost) && ((x.total == y.total) && ((x.high == y.high) && ((x.jit == y.jit) && ((x.last == y.last) && (x.delay == y.delay))))))
theorem eqRp_iff (x y : Rp) : eqRp x y = true ↔ x = y := by
  obtain ⟨a1, a2, a3, a4, a5, a6, a7⟩ := x
  obtain ⟨b1, b2, b3, b4, b5, b6, b7⟩ := y
  simp [eqRp]
def eqWn (x y : Wn) : Bool := (x.src == y.src) && (x.seq == y.seq)
theorem eqWn_iff (x y : Wn) : eqWn x y = true ↔ x = y := by
  obtain ⟨a1, a2⟩ := x
  obtain ⟨b1, b2⟩ := y
  simp [eqWn]
theorem q43 (d : Nat) (a b : Int) (w : World) : (Op.equalIn (d + 1) 43 (.int .u32 a) (.int .u32 b)).run Try.prog w = .ok (a == b) w := run_equalIn_int w d 43 .u32 .u32 a b Try.underlying43
theorem q5 (d : Nat) (a b : Int) (w : World) : (Op.equalIn (d + 1) 5 (.int .u8 a) (.int .u8 b)).run Try.prog w = .ok (a == b) w := run_equalIn_int w d 5 .u8 .u8 a b Try.underlying5
theorem neq67 (x y : Wn) (w : World) : (binOp .neq 67 (.agg #[.int .u32 x.src, .int .u8 x.seq]) (.agg #[.int .u32 y.src, .int .u8 y.seq])).run Try.prog w = .ok (.bool (!eqWn x y)) w := by
  have h1 := run_equalIn_agg (P := Try.prog) w 9999 67 #[.int .u32 x.src, .int .u8 x.seq] #[.int .u32 y.src, .int .u8 y.seq] (by kernel_rfl) (by kernel_rfl)
  have hf : (Try.prog.fieldsOf 67).toList = [⟨"Source", 43, 0, false, "", "", 0⟩, ⟨"Seq", 5, 1, false, "", "", 4⟩] := by kernel_rfl
  rw [hf] at h1
  rw [run_neq_struct, h1]
  have u1 := fun a b w => q43 9998 a b w
  have u2 := fun a b w => q5 9998 a b w
  simp only [Op.eqFields, part, isAgg, Sem.run_bind, Sem.run_ite, run_underlying Try.underlying43, run_underlying Try.underlying5, Result.andThen_ok, Sem.run_pure]
  unfold eqWn
  cases e1 : (x.src == y.src) <;> cases e2 : (x.seq == y.seq) <;> simp [u1, u2, e1, e2, go_sem]
theorem neq64 (x y : Rp) (w : World) : (binOp .neq 64 (.agg #[.int .u32 x.src, .int .u8 x.lost, .int .u32 x.total, .int .u32 x.high, .int .u32 x.jit, .int .u32 x.last, .int .u32 x.delay]) (.agg #[.int .u32 y.src, .int .u8 y.lost, .int .u32 y.total, .int .u32 y.high, .int .u32 y.jit, .int .u32 y.last, .int .u32 y.delay])).run Try.prog w = .ok (.bool (!eqRp x y)) w := by
  have h1 := run_equalIn_agg (P := Try.prog) w 9999 64 #[.int .u32 x.src, .int .u8 x.lost, .int .u32 x.total, .int .u32 x.high, .int .u32 x.jit, .int .u32 x.last, .int .u32 x.delay] #[.int .u32 y.src, .int .u8 y.lost, .int .u32 y.total, .int .u32 y.high, .int .u32 y.jit, .int .u32 y.last, .int .u32 y.delay] (by kernel_rfl) (by kernel_rfl)
  have hf : (Try.prog.fieldsOf 64).toList = [⟨"Source", 43, 0, false, "", "", 0⟩, ⟨"Lost", 5, 1, false, "", "", 4⟩, ⟨"Total", 43, 2, false, "", "", 8⟩, ⟨"High", 43, 3, false, "", "", 12⟩, ⟨"Jitter", 43, 4, false, "", "", 16⟩, ⟨"Last", 43, 5, false, "", "", 20⟩, ⟨"Delay", 43, 6, false, "", "", 24⟩] := by kernel_rfl
  rw [hf] at h1
  rw [run_neq_struct, h1]
  have u1 := fun a b w => q43 9998 a b w
  have u2 := fun a b w => q5 9998 a b w
  simp only [Op.eqFields, part, isAgg, Sem.run_bind, Sem.run_ite, run_underlying Try.underlying43, run_underlying Try.underlying5, Result.andThen_ok, Sem.run_pure]
  unfold eqRp
  cases e1 : (x.src == y.src)
  · simp [u1, u2, e1, go_sem]
  cases e2 : (x.lost == y.lost)
  · simp [u1, u2, e1, e2, go_sem]
  cases e3 : (x.total == y.total)
  · simp [u1, u2, e1, e2, e3, go_sem]
  cases e4 : (x.high == y.high)
  · simp [u1, u2, e1, e2, e3, e4, go_sem]
  cases e5 : (x.jit == y.jit)
  · simp [u1, u2, e1, e2, e3, e4, e5, go_sem]
  cases e6 : (x.last == y.last)
  · simp [u1, u2, e1, e2, e3, e4, e5, e6, go_sem]
  cases e7 : (x.delay == y.delay) <;> simp [u1, u2, e1, e2, e3, e4, e5, e6, e7, go_sem]
end Go.Proofs.Ytddopbbmgpnjjaa
namespace Go.Proofs.Ytddopbbmgpnjjaa
open Go.RowKit
set_option linter.unusedSimpArgs false

theorem fld56_0 (g : Nat) (w : World) : (Instr.fieldAt 56 (.pointer (some ⟨g, 0, none⟩)) 0).run Try.prog w = .ok (.pointer (some ⟨g, 0, none⟩)) w := by go_simp
theorem fld56_1 (g : Nat) (w : World) : (Instr.fieldAt 56 (.pointer (some ⟨g, 0, none⟩)) 1).run Try.prog w = .ok (.pointer (some ⟨g, 1, none⟩)) w := by go_simp
theorem fld56_2 (g : Nat) (w : World) : (Instr.fieldAt 56 (.pointer (some ⟨g, 0, none⟩)) 2).run Try.prog w = .ok (.pointer (some ⟨g, 2, none⟩)) w := by go_simp
theorem fld56_3 (g : Nat) (w : World) : (Instr.fieldAt 56 (.pointer (some ⟨g, 0, none⟩)) 3).run Try.prog w = .ok (.pointer (some ⟨g, 3, none⟩)) w := by go_simp
theorem fld56_4 (g : Nat) (w : World) : (Instr.fieldAt 56 (.pointer (some ⟨g, 0, none⟩)) 4).run Try.prog w = .ok (.pointer (some ⟨g, 4, none⟩)) w := by go_simp
theorem fld56_5 (g : Nat) (w : World) : (Instr.fieldAt 56 (.pointer (some ⟨g, 0, none⟩)) 5).run Try.prog w = .ok (.pointer (some ⟨g, 5, none⟩)) w := by go_simp
theorem fld56_6 (g : Nat) (w : World) : (Instr.fieldAt 56 (.pointer (some ⟨g, 0, none⟩)) 6).run Try.prog w = .ok (.pointer (some ⟨g, 6, none⟩)) w := by go_simp
theorem fld56_7 (g : Nat) (w : World) : (Instr.fieldAt 56 (.pointer (some ⟨g, 0, none⟩)) 7).run Try.prog w = .ok (.pointer (some ⟨g, 7, none⟩)) w := by go_simp
theorem fld56_8 (g : Nat) (w : World) : (Instr.fieldAt 56 (.pointer (some ⟨g, 0, none⟩)) 8).run Try.prog w = .ok (.pointer (some ⟨g, 8, none⟩)) w := by go_simp
theorem fld56_9 (g : Nat) (w : World) : (Instr.fieldAt 56 (.pointer (some ⟨g, 0, none⟩)) 9).run Try.prog w = .ok (.pointer (some ⟨g, 9, none⟩)) w := by go_simp
theorem fld56_10 (g : Nat) (w : World) : (Instr.fieldAt 56 (.pointer (some ⟨g, 0, none⟩)) 10).run Try.prog w = .ok (.pointer (some ⟨g, 10, none⟩)) w := by go_simp
theorem fld56_11 (g : Nat) (w : World) : (Instr.fieldAt 56 (.pointer (some ⟨g, 0, none⟩)) 11).run Try.prog w = .ok (.pointer (some ⟨g, 11, none⟩)) w := by go_simp
theorem fld56_12 (g : Nat) (w : World) : (Instr.fieldAt 56 (.pointer (some ⟨g, 0, none⟩)) 12).run Try.prog w = .ok (.pointer (some ⟨g, 12, none⟩)) w := by go_simp
theorem fld56_13 (g : Nat) (w : World) : (Instr.fieldAt 56 (.pointer (some ⟨g, 0, none⟩)) 13).run Try.prog w = .ok (.pointer (some ⟨g, 13, none⟩)) w := by go_simp
theorem fld56_14 (g : Nat) (w : World) : (Instr.fieldAt 56 (.pointer (some ⟨g, 0, none⟩)) 14).run Try.prog w = .ok (.pointer (some ⟨g, 14, none⟩)) w := by go_simp
theorem fld56_15 (g : Nat) (w : World) : (Instr.fieldAt 56 (.pointer (some ⟨g, 0, none⟩)) 15).run Try.prog w = .ok (.pointer (some ⟨g, 15, none⟩)) w := by go_simp
theorem ld53 {p : Addr} {u : Value} {w : World} (h : w.cell? p = some u) : (Instr.loadAt 53 (.pointer (some p))).run Try.prog w = .ok u w := by
  go_simp
theorem ld54 {p : Addr} {u : Value} {w : World} (h : w.cell? p = some u) : (Instr.loadAt 54 (.pointer (some p))).run Try.prog w = .ok u w := by
  go_simp
theorem bneq3 (a b : Int) (w : World) : (binOp .neq 3 (.int .i64 a) (.int .i64 b)).run Try.prog w = .ok (.bool (a != b)) w := by go_simp
theorem bneq43 (a b : Int) (w : World) : (binOp .neq 43 (.int .u32 a) (.int .u32 b)).run Try.prog w = .ok (.bool (a != b)) w := by go_simp
theorem bneq45 (a b : Int) (w : World) : (binOp .neq 45 (.int .u64 a) (.int .u64 b)).run Try.prog w = .ok (.bool (a != b)) w := by go_simp
theorem bneq42 (a b : Int) (w : World) : (binOp .neq 42 (.int .u16 a) (.int .u16 b)).run Try.prog w = .ok (.bool (a != b)) w := by go_simp
theorem bneq5 (a b : Int) (w : World) : (binOp .neq 5 (.int .u8 a) (.int .u8 b)).run Try.prog w = .ok (.bool (a != b)) w := by go_simp
theorem bneq9 (s t : ByteArray) (w : World) : (binOp .neq 9 (.string s) (.string t)).run Try.prog w = .ok (.bool (!(s.toList == t.toList))) w := by go_simp
/-- two packets are the same -/
noncomputable def sameB (p q : Pk) : Bool := @decide (p = q) (Classical.propDecidable _)
theorem sameB_yes {p q : Pk} (h : p = q) : sameB p q = true := by unfold sameB; exact @decide_eq_true _ (Classical.propDecidable _) h
theorem sameB_no {p q : Pk} (h : p ≠ q) : sameB p q = false := by unfold sameB; exact @decide_eq_false _ (Classical.propDecidable _) h
theorem same_scal (kind : Int) (sender : Int) (media : Int) (ntp : Int) (rtp : Int) (pkts : Int) (octs : Int) (base : Int) (ref : Int) (count : Int) (name : ByteArray) (reps : List Rp) (srcs : List Int) (seqs : List Int) (arrs : List Int) (wants : List Wn) (kind' : Int) (sender' : Int) (media' : Int) (ntp' : Int) (rtp' : Int) (pkts' : Int) (octs' : Int) (base' : Int) (ref' : Int) (count' : Int) (name' : ByteArray) (reps' : List Rp) (srcs' : List Int) (seqs' : List Int) (arrs' : List Int) (wants' : List Wn) (c : Bool) (h : c = (kind != kind' || sender != sender' || media != media' || ntp != ntp' || rtp != rtp' || pkts != pkts' || octs != octs' || !(name.toList == name'.toList) || base != base' || ref != ref' || count != count')) :
    (c = true → (⟨kind, sender, media, ntp, rtp, pkts, octs, reps, name, srcs, seqs, base, ref, count, arrs, wants⟩ : Pk) ≠ ⟨kind', sender', media', ntp', rtp', pkts', octs', reps', name', srcs', seqs', base', ref', count', arrs', wants'⟩) ∧ (c = false → kind = kind' ∧ sender = sender' ∧ media = media' ∧ ntp = ntp' ∧ rtp = rtp' ∧ pkts = pkts' ∧ octs = octs' ∧ name = name' ∧ base = base' ∧ ref = ref' ∧ count = count') := by
  constructor
  · intro hc e
    rw [hc] at h
    injection e with e0 e1 e2 e3 e4 e5 e6 e7 e8 e9 e10 e11 e12 e13 e14 e15
    subst e0 e1 e2 e3 e4 e5 e6 e7 e8 e9 e10 e11 e12 e13 e14 e15
    simp at h
  · intro hc
    rw [hc] at h
    have h := h.symm
    simp only [Bool.or_eq_false_iff, bne_eq_false_iff_eq, Bool.not_eq_false', beq_iff_eq, ByteArray.toList_eq] at h
    obtain ⟨⟨⟨⟨⟨⟨⟨⟨⟨⟨h1, h2⟩, h3⟩, h4⟩, h5⟩, h6⟩, h7⟩, h8⟩, h9⟩, h10⟩, h11⟩ := h
    exact ⟨h1, h2, h3, h4, h5, h6, h7, ls_inj h8, h9, h10, h11⟩
theorem same_len {reps reps' : List Rp} {srcs seqs arrs srcs' seqs' arrs' : List Int} {wants wants' : List Wn} (c : Bool) (h : c = ((reps.length : Int) != (reps'.length : Int) || (srcs.length : Int) != (srcs'.length : Int) || (seqs.length : Int) != (seqs'.length : Int) || (arrs.length : Int) != (arrs'.length : Int) || (wants.length : Int) != (wants'.length : Int))) :
    (c = true → ¬ (reps = reps' ∧ srcs = srcs' ∧ seqs = seqs' ∧ arrs = arrs' ∧ wants = wants')) ∧ (c = false → reps.length = reps'.length ∧ srcs.length = srcs'.length ∧ seqs.length = seqs'.length ∧ arrs.length = arrs'.length ∧ wants.length = wants'.length) := by
  constructor
  · rintro hc ⟨rfl, rfl, rfl, rfl, rfl⟩
    rw [hc] at h
    simp at h
  · intro hc
    rw [hc] at h
    have h := h.symm
    simp only [Bool.or_eq_false_iff, bne_eq_false_iff_eq] at h
    omega
theorem eq_of_get {α : Type} {l m : List α} (h : l.length = m.length) (he : ∀ j (h1 : j < l.length) (h2 : j < m.length), l[j] = m[j]) : l = m := List.ext_getElem h he
set_option maxRecDepth 100000 in
set_option maxHeartbeats 20000000 in
theorem same32 (I : Img) (M : List Res) (w : World) (kind : Int) (sender : Int) (media : Int) (ntp : Int) (rtp : Int) (pkts : Int) (octs : Int) (base : Int) (ref : Int) (count : Int) (name : ByteArray) (reps : List Rp) (rA : Option Addr) (rz : Nat) (srcs : List Int) (sA : Option Addr) (sz : Nat) (seqs : List Int) (qA : Option Addr) (qz : Nat) (arrs : List Int) (aA : Option Addr) (az : Nat) (wants : List Wn) (wA : Option Addr) (wz : Nat) (kind' : Int) (sender' : Int) (media' : Int) (ntp' : Int) (rtp' : Int) (pkts' : Int) (octs' : Int) (base' : Int) (ref' : Int) (count' : Int) (name' : ByteArray) (reps' : List Rp) (rA' : Option Addr) (rz' : Nat) (srcs' : List Int) (sA' : Option Addr) (sz' : Nat) (seqs' : List Int) (qA' : Option Addr) (qz' : Nat) (arrs' : List Int) (aA' : Option Addr) (az' : Nat) (wants' : List Wn) (wA' : Option Addr) (wz' : Nat) (kr1 : Cells I rA (flat repC reps)) (_lr1 : reps.length ≤ 140737488351232) (kr2 : Cells I rA' (flat repC reps')) (_lr2 : reps'.length ≤ 140737488351232) (ks1 : Cells I sA (flat u32C srcs)) (_ls1 : srcs.length ≤ 140737488351232) (ks2 : Cells I sA' (flat u32C srcs')) (_ls2 : srcs'.length ≤ 140737488351232) (kq1 : Cells I qA (flat u16C seqs)) (_lq1 : seqs.length ≤ 140737488351232) (kq2 : Cells I qA' (flat u16C seqs')) (_lq2 : seqs'.length ≤ 140737488351232) (ka1 : Cells I aA (flat intC arrs)) (_la1 : arrs.length ≤ 140737488351232) (ka2 : Cells I aA' (flat intC arrs')) (_la2 : arrs'.length ≤ 140737488351232) (kw1 : Cells I wA (flat wnC wants)) (_lw1 : wants.length ≤ 140737488351232) (kw2 : Cells I wA' (flat wnC wants')) (_lw2 : wants'.length ≤ 140737488351232) (hst : St I M w) :
    Calls Try.prog 32 #[.agg #[.int .i64 kind, .int .u32 sender, .int .u32 media, .int .u64 ntp, .int .u32 rtp, .int .u32 pkts, .int .u32 octs, .slice rA reps.length rz, .string name, .slice sA srcs.length sz, .slice qA seqs.length qz, .int .u16 base, .int .u32 ref, .int .u8 count, .slice aA arrs.length az, .slice wA wants.length wz], .agg #[.int .i64 kind', .int .u32 sender', .int .u32 media', .int .u64 ntp', .int .u32 rtp', .int .u32 pkts', .int .u32 octs', .slice rA' reps'.length rz', .string name', .slice sA' srcs'.length sz', .slice qA' seqs'.length qz', .int .u16 base', .int .u32 ref', .int .u8 count', .slice aA' arrs'.length az', .slice wA' wants'.length wz']] w (Ret I (fun r J M' => I = J ∧ r = .bool (sameB ⟨kind, sender, media, ntp, rtp, pkts, octs, reps, name, srcs, seqs, base, ref, count, arrs, wants⟩ ⟨kind', sender', media', ntp', rtp', pkts', octs', reps', name', srcs', seqs', base', ref', count', arrs', wants'⟩) ∧ M' = M)) := by
  have hs1 := (hst.alloc 56 #[.int .i64 kind, .int .u32 sender, .int .u32 media, .int .u64 ntp, .int .u32 rtp, .int .u32 pkts, .int .u32 octs, .slice rA reps.length rz, .string name, .slice sA srcs.length sz, .slice qA seqs.length qz, .int .u16 base, .int .u32 ref, .int .u8 count, .slice aA arrs.length az, .slice wA wants.length wz]).alloc 56 #[.int .i64 kind', .int .u32 sender', .int .u32 media', .int .u64 ntp', .int .u32 rtp', .int .u32 pkts', .int .u32 octs', .slice rA' reps'.length rz', .string name', .slice sA' srcs'.length sz', .slice qA' seqs'.length qz', .int .u16 base', .int .u32 ref', .int .u8 count', .slice aA' arrs'.length az', .slice wA' wants'.length wz']
  simp only [World.size_alloc] at hs1
  have HR := Lib.hid (And.intro kr1 kr2)
  have HS := Lib.hid (And.intro ks1 ks2)
  have HQ := Lib.hid (And.intro kq1 kq2)
  have HA := Lib.hid (And.intro ka1 ka2)
  have HW := Lib.hid (And.intro kw1 kw2)
  obtain ⟨S, hS⟩ : ∃ S, S = sameB ⟨kind, sender, media, ntp, rtp, pkts, octs, reps, name, srcs, seqs, base, ref, count, arrs, wants⟩ ⟨kind', sender', media', ntp', rtp', pkts', octs', reps', name', srcs', seqs', base', ref', count', arrs', wants'⟩ := ⟨_, rfl⟩
  have HSS := Lib.hid hS
  rw [← hS]
  clear hst hS kr1 kr2 ks1 ks2 kq1 kq2 ka1 ka2 kw1 kw2
  go_enter Try.func32, Try.ntmps32
  go_upto_region 1 with fail
  obtain ⟨q1, hq1⟩ : ∃ q, q = w.heap.size := ⟨_, rfl⟩
  obtain ⟨q2, hq2⟩ : ∃ q, q = q1 + 1 := ⟨_, rfl⟩
  rw [← hq1, ← hq2] at hs1 ⊢
  generalize World.alloc (World.alloc w _) _ = W at hs1 ⊢
  clear hq1 hq2
  obtain ⟨hq1, hf1, hl1⟩ := Blk.all (hs1.at 1 rfl)
  obtain ⟨hq2, hf2, hl2⟩ := Blk.all (hs1.at 0 rfl)
  have HS1 := Lib.hid hs1
  clear hs1
  refine wp_region_lit ?_
  refine gd_field (true) 56 _ 0 rfl ⟨q1, 0, none⟩ ⟨q1, 0, none⟩ rfl (fun _ => rfl) (fld56_0 _ _) ?_
  simp only [Act.put, List.setIfInBounds_toArray, List.set_cons_succ, List.set_cons_zero]
  refine gd_load (true) 3 _ rfl ⟨q1, 0, none⟩ (.int .i64 kind) rfl (fun _ => rfl) (ld3 (show _ = some (.int .i64 kind : Value) from hq1 0)) ?_
  simp only [Act.put, List.setIfInBounds_toArray, List.set_cons_succ, List.set_cons_zero]
  refine gd_field (true) 56 _ 0 rfl ⟨q2, 0, none⟩ ⟨q2, 0, none⟩ rfl (fun _ => rfl) (fld56_0 _ _) ?_
  simp only [Act.put, List.setIfInBounds_toArray, List.set_cons_succ, List.set_cons_zero]
  refine gd_load (true) 3 _ rfl ⟨q2, 0, none⟩ (.int .i64 kind') rfl (fun _ => rfl) (ld3 (show _ = some (.int .i64 kind' : Value) from hq2 0)) ?_
  simp only [Act.put, List.setIfInBounds_toArray, List.set_cons_succ, List.set_cons_zero]
  refine gd_bin (true) .neq 3 _ _ _ rfl (.int .i64 kind) (.int .i64 kind') (.bool (kind != kind')) rfl (fun _ => rfl) (fun _ => rfl) (eqg_int _ _ _ _ _ _ _ _) (bneq3 _ _ _) ?_
  simp only [Act.put, List.setIfInBounds_toArray, List.set_cons_succ, List.set_cons_zero]
  obtain ⟨c1, hc1⟩ : ∃ c : Bool, c = (kind != kind') := ⟨_, rfl⟩
  rw [← hc1]
  have Hc1 := Lib.hid hc1
  clear hc1
  refine gd_move _ rfl rfl (.bool c1) rfl ?_
  simp only [Act.put, List.setIfInBounds_toArray, List.set_cons_succ, List.set_cons_zero]
  refine gd_field ((!c1)) 56 _ 1 rfl ⟨q1, 0, none⟩ ⟨q1, 1, none⟩ (by cases c1 <;> rfl) (fun h => by cases c1 <;> first | rfl | cases h) (fld56_1 _ _) ?_
  simp only [Act.put, List.setIfInBounds_toArray, List.set_cons_succ, List.set_cons_zero]
  refine gd_load ((!c1)) 43 _ rfl ⟨q1, 1, none⟩ (.int .u32 sender) (by cases c1 <;> rfl) (fun h => by cases c1 <;> first | rfl | cases h) (ld43 (show _ = some (.int .u32 sender : Value) from hq1 1)) ?_
  simp only [Act.put, List.setIfInBounds_toArray, List.set_cons_succ, List.set_cons_zero]
  refine gd_field ((!c1)) 56 _ 1 rfl ⟨q2, 0, none⟩ ⟨q2, 1, none⟩ (by cases c1 <;> rfl) (fun h => by cases c1 <;> first | rfl | cases h) (fld56_1 _ _) ?_
  simp only [Act.put, List.setIfInBounds_toArray, List.set_cons_succ, List.set_cons_zero]
  refine gd_load ((!c1)) 43 _ rfl ⟨q2, 1, none⟩ (.int .u32 sender') (by cases c1 <;> rfl) (fun h => by cases c1 <;> first | rfl | cases h) (ld43 (show _ = some (.int .u32 sender' : Value) from hq2 1)) ?_
  simp only [Act.put, List.setIfInBounds_toArray, List.set_cons_succ, List.set_cons_zero]
  refine gd_bin ((!c1)) .neq 43 _ _ _ rfl (.int .u32 sender) (.int .u32 sender') (.bool (sender != sender')) (by cases c1 <;> rfl) (fun h => by cases c1 <;> first | rfl | cases h) (fun h => by cases c1 <;> first | rfl | cases h) (eqg_int _ _ _ _ _ _ _ _) (bneq43 _ _ _) ?_
  simp only [Act.put, List.setIfInBounds_toArray, List.set_cons_succ, List.set_cons_zero]
  refine gd_or _ _ rfl rfl c1 (sender != sender') rfl (fun h => by cases c1 <;> first | rfl | cases h) ?_
  simp only [Act.put, List.setIfInBounds_toArray, List.set_cons_succ, List.set_cons_zero]
  obtain ⟨c2, hc2⟩ : ∃ c : Bool, c = (c1 || sender != sender') := ⟨_, rfl⟩
  rw [← hc2]
  have Hc2 := Lib.hid hc2
  clear hc2
  refine gd_move _ rfl rfl (.bool c2) rfl ?_
  simp only [Act.put, List.setIfInBounds_toArray, List.set_cons_succ, List.set_cons_zero]
  refine gd_field ((!c2)) 56 _ 2 rfl ⟨q1, 0, none⟩ ⟨q1, 2, none⟩ (by cases c2 <;> rfl) (fun h => by cases c2 <;> first | rfl | cases h) (fld56_2 _ _) ?_
  simp only [Act.put, List.setIfInBounds_toArray, List.set_cons_succ, List.set_cons_zero]
  refine gd_load ((!c2)) 43 _ rfl ⟨q1, 2, none⟩ (.int .u32 media) (by cases c2 <;> rfl) (fun h => by cases c2 <;> first | rfl | cases h) (ld43 (show _ = some (.int .u32 media : Value) from hq1 2)) ?_
  simp only [Act.put, List.setIfInBounds_toArray, List.set_cons_succ, List.set_cons_zero]
  refine gd_field ((!c2)) 56 _ 2 rfl ⟨q2, 0, none⟩ ⟨q2, 2, none⟩ (by cases c2 <;> rfl) (fun h => by cases c2 <;> first | rfl | cases h) (fld56_2 _ _) ?_
  simp only [Act.put, List.setIfInBounds_toArray, List.set_cons_succ, List.set_cons_zero]
  refine gd_load ((!c2)) 43 _ rfl ⟨q2, 2, none⟩ (.int .u32 media') (by cases c2 <;> rfl) (fun h => by cases c2 <;> first | rfl | cases h) (ld43 (show _ = some (.int .u32 media' : Value) from hq2 2)) ?_
  simp only [Act.put, List.setIfInBounds_toArray, List.set_cons_succ, List.set_cons_zero]
  refine gd_bin ((!c2)) .neq 43 _ _ _ rfl (.int .u32 media) (.int .u32 media') (.bool (media != media')) (by cases c2 <;> rfl) (fun h => by cases c2 <;> first | rfl | cases h) (fun h => by cases c2 <;> first | rfl | cases h) (eqg_int _ _ _ _ _ _ _ _) (bneq43 _ _ _) ?_
  simp only [Act.put, List.setIfInBounds_toArray, List.set_cons_succ, List.set_cons_zero]
  refine gd_or _ _ rfl rfl c2 (media != media') rfl (fun h => by cases c2 <;> first | rfl | cases h) ?_
  simp only [Act.put, List.setIfInBounds_toArray, List.set_cons_succ, List.set_cons_zero]
  obtain ⟨c3, hc3⟩ : ∃ c : Bool, c = (c2 || media != media') := ⟨_, rfl⟩
  rw [← hc3]
  have Hc3 := Lib.hid hc3
  clear hc3
  refine gd_move _ rfl rfl (.bool c3) rfl ?_
  simp only [Act.put, List.setIfInBounds_toArray, List.set_cons_succ, List.set_cons_zero]
  refine gd_field ((!c3)) 56 _ 3 rfl ⟨q1, 0, none⟩ ⟨q1, 3, none⟩ (by cases c3 <;> rfl) (fun h => by cases c3 <;> first | rfl | cases h) (fld56_3 _ _) ?_
  simp only [Act.put, List.setIfInBounds_toArray, List.set_cons_succ, List.set_cons_zero]
  refine gd_load ((!c3)) 45 _ rfl ⟨q1, 3, none⟩ (.int .u64 ntp) (by cases c3 <;> rfl) (fun h => by cases c3 <;> first | rfl | cases h) (ld45 (show _ = some (.int .u64 ntp : Value) from hq1 3)) ?_
  simp only [Act.put, List.setIfInBounds_toArray, List.set_cons_succ, List.set_cons_zero]
  refine gd_field ((!c3)) 56 _ 3 rfl ⟨q2, 0, none⟩ ⟨q2, 3, none⟩ (by cases c3 <;> rfl) (fun h => by cases c3 <;> first | rfl | cases h) (fld56_3 _ _) ?_
  simp only [Act.put, List.setIfInBounds_toArray, List.set_cons_succ, List.set_cons_zero]
  refine gd_load ((!c3)) 45 _ rfl ⟨q2, 3, none⟩ (.int .u64 ntp') (by cases c3 <;> rfl) (fun h => by cases c3 <;> first | rfl | cases h) (ld45 (show _ = some (.int .u64 ntp' : Value) from hq2 3)) ?_
  simp only [Act.put, List.setIfInBounds_toArray, List.set_cons_succ, List.set_cons_zero]
  refine gd_bin ((!c3)) .neq 45 _ _ _ rfl (.int .u64 ntp) (.int .u64 ntp') (.bool (ntp != ntp')) (by cases c3 <;> rfl) (fun h => by cases c3 <;> first | rfl | cases h) (fun h => by cases c3 <;> first | rfl | cases h) (eqg_int _ _ _ _ _ _ _ _) (bneq45 _ _ _) ?_
  simp only [Act.put, List.setIfInBounds_toArray, List.set_cons_succ, List.set_cons_zero]
  refine gd_or _ _ rfl rfl c3 (ntp != ntp') rfl (fun h => by cases c3 <;> first | rfl | cases h) ?_
  simp only [Act.put, List.setIfInBounds_toArray, List.set_cons_succ, List.set_cons_zero]
  obtain ⟨c4, hc4⟩ : ∃ c : Bool, c = (c3 || ntp != ntp') := ⟨_, rfl⟩
  rw [← hc4]
  have Hc4 := Lib.hid hc4
  clear hc4
  refine gd_move _ rfl rfl (.bool c4) rfl ?_
  simp only [Act.put, List.setIfInBounds_toArray, List.set_cons_succ, List.set_cons_zero]
  refine gd_field ((!c4)) 56 _ 4 rfl ⟨q1, 0, none⟩ ⟨q1, 4, none⟩ (by cases c4 <;> rfl) (fun h => by cases c4 <;> first | rfl | cases h) (fld56_4 _ _) ?_
  simp only [Act.put, List.setIfInBounds_toArray, List.set_cons_succ, List.set_cons_zero]
  refine gd_load ((!c4)) 43 _ rfl ⟨q1, 4, none⟩ (.int .u32 rtp) (by cases c4 <;> rfl) (fun h => by cases c4 <;> first | rfl | cases h) (ld43 (show _ = some (.int .u32 rtp : Value) from hq1 4)) ?_
  simp only [Act.put, List.setIfInBounds_toArray, List.set_cons_succ, List.set_cons_zero]
  refine gd_field ((!c4)) 56 _ 4 rfl ⟨q2, 0, none⟩ ⟨q2, 4, none⟩ (by cases c4 <;> rfl) (fun h => by cases c4 <;> first | rfl | cases h) (fld56_4 _ _) ?_
  simp only [Act.put, List.setIfInBounds_toArray, List.set_cons_succ, List.set_cons_zero]
  refine gd_load ((!c4)) 43 _ rfl ⟨q2, 4, none⟩ (.int .u32 rtp') (by cases c4 <;> rfl) (fun h => by cases c4 <;> first | rfl | cases h) (ld43 (show _ = some (.int .u32 rtp' : Value) from hq2 4)) ?_
  simp only [Act.put, List.setIfInBounds_toArray, List.set_cons_succ, List.set_cons_zero]
  refine gd_bin ((!c4)) .neq 43 _ _ _ rfl (.int .u32 rtp) (.int .u32 rtp') (.bool (rtp != rtp')) (by cases c4 <;> rfl) (fun h => by cases c4 <;> first | rfl | cases h) (fun h => by cases c4 <;> first | rfl | cases h) (eqg_int _ _ _ _ _ _ _ _) (bneq43 _ _ _) ?_
  simp only [Act.put, List.setIfInBounds_toArray, List.set_cons_succ, List.set_cons_zero]
  refine gd_or _ _ rfl rfl c4 (rtp != rtp') rfl (fun h => by cases c4 <;> first | rfl | cases h) ?_
  simp only [Act.put, List.setIfInBounds_toArray, List.set_cons_succ, List.set_cons_zero]
  obtain ⟨c5, hc5⟩ : ∃ c : Bool, c = (c4 || rtp != rtp') := ⟨_, rfl⟩
  rw [← hc5]
  have Hc5 := Lib.hid hc5
  clear hc5
  refine gd_move _ rfl rfl (.bool c5) rfl ?_
  simp only [Act.put, List.setIfInBounds_toArray, List.set_cons_succ, List.set_cons_zero]
  refine gd_field ((!c5)) 56 _ 5 rfl ⟨q1, 0, none⟩ ⟨q1, 5, none⟩ (by cases c5 <;> rfl) (fun h => by cases c5 <;> first | rfl | cases h) (fld56_5 _ _) ?_
  simp only [Act.put, List.setIfInBounds_toArray, List.set_cons_succ, List.set_cons_zero]
  refine gd_load ((!c5)) 43 _ rfl ⟨q1, 5, none⟩ (.int .u32 pkts) (by cases c5 <;> rfl) (fun h => by cases c5 <;> first | rfl | cases h) (ld43 (show _ = some (.int .u32 pkts : Value) from hq1 5)) ?_
  simp only [Act.put, List.setIfInBounds_toArray, List.set_cons_succ, List.set_cons_zero]
  refine gd_field ((!c5)) 56 _ 5 rfl ⟨q2, 0, none⟩ ⟨q2, 5, none⟩ (by cases c5 <;> rfl) (fun h => by cases c5 <;> first | rfl | cases h) (fld56_5 _ _) ?_
  simp only [Act.put, List.setIfInBounds_toArray, List.set_cons_succ, List.set_cons_zero]
  refine gd_load ((!c5)) 43 _ rfl ⟨q2, 5, none⟩ (.int .u32 pkts') (by cases c5 <;> rfl) (fun h => by cases c5 <;> first | rfl | cases h) (ld43 (show _ = some (.int .u32 pkts' : Value) from hq2 5)) ?_
  simp only [Act.put, List.setIfInBounds_toArray, List.set_cons_succ, List.set_cons_zero]
  refine gd_bin ((!c5)) .neq 43 _ _ _ rfl (.int .u32 pkts) (.int .u32 pkts') (.bool (pkts != pkts')) (by cases c5 <;> rfl) (fun h => by cases c5 <;> first | rfl | cases h) (fun h => by cases c5 <;> first | rfl | cases h) (eqg_int _ _ _ _ _ _ _ _) (bneq43 _ _ _) ?_
  simp only [Act.put, List.setIfInBounds_toArray, List.set_cons_succ, List.set_cons_zero]
  refine gd_or _ _ rfl rfl c5 (pkts != pkts') rfl (fun h => by cases c5 <;> first | rfl | cases h) ?_
  simp only [Act.put, List.setIfInBounds_toArray, List.set_cons_succ, List.set_cons_zero]
  obtain ⟨c6, hc6⟩ : ∃ c : Bool, c = (c5 || pkts != pkts') := ⟨_, rfl⟩
  rw [← hc6]
  have Hc6 := Lib.hid hc6
  clear hc6
  refine gd_move _ rfl rfl (.bool c6) rfl ?_
  simp only [Act.put, List.setIfInBounds_toArray, List.set_cons_succ, List.set_cons_zero]
  refine gd_field ((!c6)) 56 _ 6 rfl ⟨q1, 0, none⟩ ⟨q1, 6, none⟩ (by cases c6 <;> rfl) (fun h => by cases c6 <;> first | rfl | cases h) (fld56_6 _ _) ?_
  simp only [Act.put, List.setIfInBounds_toArray, List.set_cons_succ, List.set_cons_zero]
  refine gd_load ((!c6)) 43 _ rfl ⟨q1, 6, none⟩ (.int .u32 octs) (by cases c6 <;> rfl) (fun h => by cases c6 <;> first | rfl | cases h) (ld43 (show _ = some (.int .u32 octs : Value) from hq1 6)) ?_
  simp only [Act.put, List.setIfInBounds_toArray, List.set_cons_succ, List.set_cons_zero]
  refine gd_field ((!c6)) 56 _ 6 rfl ⟨q2, 0, none⟩ ⟨q2, 6, none⟩ (by cases c6 <;> rfl) (fun h => by cases c6 <;> first | rfl | cases h) (fld56_6 _ _) ?_
  simp only [Act.put, List.setIfInBounds_toArray, List.set_cons_succ, List.set_cons_zero]
  refine gd_load ((!c6)) 43 _ rfl ⟨q2, 6, none⟩ (.int .u32 octs') (by cases c6 <;> rfl) (fun h => by cases c6 <;> first | rfl | cases h) (ld43 (show _ = some (.int .u32 octs' : Value) from hq2 6)) ?_
  simp only [Act.put, List.setIfInBounds_toArray, List.set_cons_succ, List.set_cons_zero]
  refine gd_bin ((!c6)) .neq 43 _ _ _ rfl (.int .u32 octs) (.int .u32 octs') (.bool (octs != octs')) (by cases c6 <;> rfl) (fun h => by cases c6 <;> first | rfl | cases h) (fun h => by cases c6 <;> first | rfl | cases h) (eqg_int _ _ _ _ _ _ _ _) (bneq43 _ _ _) ?_
  simp only [Act.put, List.setIfInBounds_toArray, List.set_cons_succ, List.set_cons_zero]
  refine gd_or _ _ rfl rfl c6 (octs != octs') rfl (fun h => by cases c6 <;> first | rfl | cases h) ?_
  simp only [Act.put, List.setIfInBounds_toArray, List.set_cons_succ, List.set_cons_zero]
  obtain ⟨c7, hc7⟩ : ∃ c : Bool, c = (c6 || octs != octs') := ⟨_, rfl⟩
  rw [← hc7]
  have Hc7 := Lib.hid hc7
  clear hc7
  refine gd_move _ rfl rfl (.bool c7) rfl ?_
  simp only [Act.put, List.setIfInBounds_toArray, List.set_cons_succ, List.set_cons_zero]
  refine gd_field ((!c7)) 56 _ 8 rfl ⟨q1, 0, none⟩ ⟨q1, 8, none⟩ (by cases c7 <;> rfl) (fun h => by cases c7 <;> first | rfl | cases h) (fld56_8 _ _) ?_
  simp only [Act.put, List.setIfInBounds_toArray, List.set_cons_succ, List.set_cons_zero]
  refine gd_load ((!c7)) 9 _ rfl ⟨q1, 8, none⟩ (.string name) (by cases c7 <;> rfl) (fun h => by cases c7 <;> first | rfl | cases h) (ld9 (show _ = some (.string name : Value) from hq1 8)) ?_
  simp only [Act.put, List.setIfInBounds_toArray, List.set_cons_succ, List.set_cons_zero]
  refine gd_field ((!c7)) 56 _ 8 rfl ⟨q2, 0, none⟩ ⟨q2, 8, none⟩ (by cases c7 <;> rfl) (fun h => by cases c7 <;> first | rfl | cases h) (fld56_8 _ _) ?_
  simp only [Act.put, List.setIfInBounds_toArray, List.set_cons_succ, List.set_cons_zero]
  refine gd_load ((!c7)) 9 _ rfl ⟨q2, 8, none⟩ (.string name') (by cases c7 <;> rfl) (fun h => by cases c7 <;> first | rfl | cases h) (ld9 (show _ = some (.string name' : Value) from hq2 8)) ?_
  simp only [Act.put, List.setIfInBounds_toArray, List.set_cons_succ, List.set_cons_zero]
  refine gd_bin ((!c7)) .neq 9 _ _ _ rfl (.string name) (.string name') (.bool (!(name.toList == name'.toList))) (by cases c7 <;> rfl) (fun h => by cases c7 <;> first | rfl | cases h) (fun h => by cases c7 <;> first | rfl | cases h) (eqg_str _ _ _ _ _ _) (bneq9 _ _ _) ?_
  simp only [Act.put, List.setIfInBounds_toArray, List.set_cons_succ, List.set_cons_zero]
  refine gd_or _ _ rfl rfl c7 (!(name.toList == name'.toList)) rfl (fun h => by cases c7 <;> first | rfl | cases h) ?_
  simp only [Act.put, List.setIfInBounds_toArray, List.set_cons_succ, List.set_cons_zero]
  obtain ⟨c8, hc8⟩ : ∃ c : Bool, c = (c7 || !(name.toList == name'.toList)) := ⟨_, rfl⟩
  rw [← hc8]
  have Hc8 := Lib.hid hc8
  clear hc8
  refine gd_move _ rfl rfl (.bool c8) rfl ?_
  simp only [Act.put, List.setIfInBounds_toArray, List.set_cons_succ, List.set_cons_zero]
  refine gd_field ((!c8)) 56 _ 11 rfl ⟨q1, 0, none⟩ ⟨q1, 11, none⟩ (by cases c8 <;> rfl) (fun h => by cases c8 <;> first | rfl | cases h) (fld56_11 _ _) ?_
  simp only [Act.put, List.setIfInBounds_toArray, List.set_cons_succ, List.set_cons_zero]
  refine gd_load ((!c8)) 42 _ rfl ⟨q1, 11, none⟩ (.int .u16 base) (by cases c8 <;> rfl) (fun h => by cases c8 <;> first | rfl | cases h) (ld42 (show _ = some (.int .u16 base : Value) from hq1 11)) ?_
  simp only [Act.put, List.setIfInBounds_toArray, List.set_cons_succ, List.set_cons_zero]
  refine gd_field ((!c8)) 56 _ 11 rfl ⟨q2, 0, none⟩ ⟨q2, 11, none⟩ (by cases c8 <;> rfl) (fun h => by cases c8 <;> first | rfl | cases h) (fld56_11 _ _) ?_
  simp only [Act.put, List.setIfInBounds_toArray, List.set_cons_succ, List.set_cons_zero]
  refine gd_load ((!c8)) 42 _ rfl ⟨q2, 11, none⟩ (.int .u16 base') (by cases c8 <;> rfl) (fun h => by cases c8 <;> first | rfl | cases h) (ld42 (show _ = some (.int .u16 base' : Value) from hq2 11)) ?_
  simp only [Act.put, List.setIfInBounds_toArray, List.set_cons_succ, List.set_cons_zero]
  refine gd_bin ((!c8)) .neq 42 _ _ _ rfl (.int .u16 base) (.int .u16 base') (.bool (base != base')) (by cases c8 <;> rfl) (fun h => by cases c8 <;> first | rfl | cases h) (fun h => by cases c8 <;> first | rfl | cases h) (eqg_int _ _ _ _ _ _ _ _) (bneq42 _ _ _) ?_
  simp only [Act.put, List.setIfInBounds_toArray, List.set_cons_succ, List.set_cons_zero]
  refine gd_or _ _ rfl rfl c8 (base != base') rfl (fun h => by cases c8 <;> first | rfl | cases h) ?_
  simp only [Act.put, List.setIfInBounds_toArray, List.set_cons_succ, List.set_cons_zero]
  obtain ⟨c9, hc9⟩ : ∃ c : Bool, c = (c8 || base != base') := ⟨_, rfl⟩
  rw [← hc9]
  have Hc9 := Lib.hid hc9
  clear hc9
  refine gd_move _ rfl rfl (.bool c9) rfl ?_
  simp only [Act.put, List.setIfInBounds_toArray, List.set_cons_succ, List.set_cons_zero]
  refine gd_field ((!c9)) 56 _ 12 rfl ⟨q1, 0, none⟩ ⟨q1, 12, none⟩ (by cases c9 <;> rfl) (fun h => by cases c9 <;> first | rfl | cases h) (fld56_12 _ _) ?_
  simp only [Act.put, List.setIfInBounds_toArray, List.set_cons_succ, List.set_cons_zero]
  refine gd_load ((!c9)) 43 _ rfl ⟨q1, 12, none⟩ (.int .u32 ref) (by cases c9 <;> rfl) (fun h => by cases c9 <;> first | rfl | cases h) (ld43 (show _ = some (.int .u32 ref : Value) from hq1 12)) ?_
  simp only [Act.put, List.setIfInBounds_toArray, List.set_cons_succ, List.set_cons_zero]
  refine gd_field ((!c9)) 56 _ 12 rfl ⟨q2, 0, none⟩ ⟨q2, 12, none⟩ (by cases c9 <;> rfl) (fun h => by cases c9 <;> first | rfl | cases h) (fld56_12 _ _) ?_
  simp only [Act.put, List.setIfInBounds_toArray, List.set_cons_succ, List.set_cons_zero]
  refine gd_load ((!c9)) 43 _ rfl ⟨q2, 12, none⟩ (.int .u32 ref') (by cases c9 <;> rfl) (fun h => by cases c9 <;> first | rfl | cases h) (ld43 (show _ = some (.int .u32 ref' : Value) from hq2 12)) ?_
  simp only [Act.put, List.setIfInBounds_toArray, List.set_cons_succ, List.set_cons_zero]
  refine gd_bin ((!c9)) .neq 43 _ _ _ rfl (.int .u32 ref) (.int .u32 ref') (.bool (ref != ref')) (by cases c9 <;> rfl) (fun h => by cases c9 <;> first | rfl | cases h) (fun h => by cases c9 <;> first | rfl | cases h) (eqg_int _ _ _ _ _ _ _ _) (bneq43 _ _ _) ?_
  simp only [Act.put, List.setIfInBounds_toArray, List.set_cons_succ, List.set_cons_zero]
  refine gd_or _ _ rfl rfl c9 (ref != ref') rfl (fun h => by cases c9 <;> first | rfl | cases h) ?_
  simp only [Act.put, List.setIfInBounds_toArray, List.set_cons_succ, List.set_cons_zero]
  obtain ⟨c10, hc10⟩ : ∃ c : Bool, c = (c9 || ref != ref') := ⟨_, rfl⟩
  rw [← hc10]
  have Hc10 := Lib.hid hc10
  clear hc10
  refine gd_move _ rfl rfl (.bool c10) rfl ?_
  simp only [Act.put, List.setIfInBounds_toArray, List.set_cons_succ, List.set_cons_zero]
  refine gd_field ((!c10)) 56 _ 13 rfl ⟨q1, 0, none⟩ ⟨q1, 13, none⟩ (by cases c10 <;> rfl) (fun h => by cases c10 <;> first | rfl | cases h) (fld56_13 _ _) ?_
  simp only [Act.put, List.setIfInBounds_toArray, List.set_cons_succ, List.set_cons_zero]
  refine gd_load ((!c10)) 5 _ rfl ⟨q1, 13, none⟩ (.int .u8 count) (by cases c10 <;> rfl) (fun h => by cases c10 <;> first | rfl | cases h) (ld5 (show _ = some (.int .u8 count : Value) from hq1 13)) ?_
  simp only [Act.put, List.setIfInBounds_toArray, List.set_cons_succ, List.set_cons_zero]
  refine gd_field ((!c10)) 56 _ 13 rfl ⟨q2, 0, none⟩ ⟨q2, 13, none⟩ (by cases c10 <;> rfl) (fun h => by cases c10 <;> first | rfl | cases h) (fld56_13 _ _) ?_
  simp only [Act.put, List.setIfInBounds_toArray, List.set_cons_succ, List.set_cons_zero]
  refine gd_load ((!c10)) 5 _ rfl ⟨q2, 13, none⟩ (.int .u8 count') (by cases c10 <;> rfl) (fun h => by cases c10 <;> first | rfl | cases h) (ld5 (show _ = some (.int .u8 count' : Value) from hq2 13)) ?_
  simp only [Act.put, List.setIfInBounds_toArray, List.set_cons_succ, List.set_cons_zero]
  refine gd_bin ((!c10)) .neq 5 _ _ _ rfl (.int .u8 count) (.int .u8 count') (.bool (count != count')) (by cases c10 <;> rfl) (fun h => by cases c10 <;> first | rfl | cases h) (fun h => by cases c10 <;> first | rfl | cases h) (eqg_int _ _ _ _ _ _ _ _) (bneq5 _ _ _) ?_
  simp only [Act.put, List.setIfInBounds_toArray, List.set_cons_succ, List.set_cons_zero]
  refine gd_or _ _ rfl rfl c10 (count != count') rfl (fun h => by cases c10 <;> first | rfl | cases h) ?_
  simp only [Act.put, List.setIfInBounds_toArray, List.set_cons_succ, List.set_cons_zero]
  obtain ⟨c11, hc11⟩ : ∃ c : Bool, c = (c10 || count != count') := ⟨_, rfl⟩
  rw [← hc11]
  have Hc11 := Lib.hid hc11
  clear hc11
  have HX := Lib.hid (show c11 = (kind != kind' || sender != sender' || media != media' || ntp != ntp' || rtp != rtp' || pkts != pkts' || octs != octs' || !(name.toList == name'.toList) || base != base' || ref != ref' || count != count') from by rw [Hc11.out, Hc10.out, Hc9.out, Hc8.out, Hc7.out, Hc6.out, Hc5.out, Hc4.out, Hc3.out, Hc2.out, Hc1.out])
  clear Hc1 Hc2 Hc3 Hc4 Hc5 Hc6 Hc7 Hc8 Hc9 Hc10 Hc11
  generalize c11 = d1 at HX ⊢
  cases d1
  case true =>
    have HE := Lib.hid (HSS.out.trans (sameB_no ((same_scal kind sender media ntp rtp pkts octs base ref count name reps srcs seqs arrs wants kind' sender' media' ntp' rtp' pkts' octs' base' ref' count' name' reps' srcs' seqs' arrs' wants' true HX.out).1 rfl)))
    go_wp2
    go_returns
    exact Ret.mk (.refl I) HS1.out.drop.drop ⟨rfl, congrArg Value.bool HE.out.symm, rfl⟩
  case false =>
    have HSC := Lib.hid ((same_scal kind sender media ntp rtp pkts octs base ref count name reps srcs seqs arrs wants kind' sender' media' ntp' rtp' pkts' octs' base' ref' count' name' reps' srcs' seqs' arrs' wants' false HX.out).2 rfl)
    clear HX
    go_upto_region 3 with fail
    refine wp_region_lit ?_
    refine gd_field (true) 56 _ 7 rfl ⟨q1, 0, none⟩ ⟨q1, 7, none⟩ rfl (fun _ => rfl) (fld56_7 _ _) ?_
    simp only [Act.put, List.setIfInBounds_toArray, List.set_cons_succ, List.set_cons_zero]
    refine gd_load (true) 53 _ rfl ⟨q1, 7, none⟩ (.slice rA reps.length rz) rfl (fun _ => rfl) (ld53 (show _ = some (.slice rA reps.length rz : Value) from hq1 7)) ?_
    simp only [Act.put, List.setIfInBounds_toArray, List.set_cons_succ, List.set_cons_zero]
    refine gd_len (true) _ 53 _ rfl Try.underlying53 _ (reps.length) _ rfl (fun _ => rfl) ?_
    simp only [Act.put, List.setIfInBounds_toArray, List.set_cons_succ, List.set_cons_zero]
    refine gd_field (true) 56 _ 7 rfl ⟨q2, 0, none⟩ ⟨q2, 7, none⟩ rfl (fun _ => rfl) (fld56_7 _ _) ?_
    simp only [Act.put, List.setIfInBounds_toArray, List.set_cons_succ, List.set_cons_zero]
    refine gd_load (true) 53 _ rfl ⟨q2, 7, none⟩ (.slice rA' reps'.length rz') rfl (fun _ => rfl) (ld53 (show _ = some (.slice rA' reps'.length rz' : Value) from hq2 7)) ?_
    simp only [Act.put, List.setIfInBounds_toArray, List.set_cons_succ, List.set_cons_zero]
    refine gd_len (true) _ 53 _ rfl Try.underlying53 _ (reps'.length) _ rfl (fun _ => rfl) ?_
    simp only [Act.put, List.setIfInBounds_toArray, List.set_cons_succ, List.set_cons_zero]
    refine gd_bin (true) .neq 3 _ _ _ rfl (.int .i64 (reps.length : Int)) (.int .i64 (reps'.length : Int)) (.bool ((reps.length : Int) != (reps'.length : Int))) rfl (fun _ => rfl) (fun _ => rfl) (eqg_int _ _ _ _ _ _ _ _) (bneq3 _ _ _) ?_
    simp only [Act.put, List.setIfInBounds_toArray, List.set_cons_succ, List.set_cons_zero]
    obtain ⟨c101, hc101⟩ : ∃ c : Bool, c = ((reps.length : Int) != (reps'.length : Int)) := ⟨_, rfl⟩
    rw [← hc101]
    have Hc101 := Lib.hid hc101
    clear hc101
    refine gd_move _ rfl rfl (.bool c101) rfl ?_
    simp only [Act.put, List.setIfInBounds_toArray, List.set_cons_succ, List.set_cons_zero]
    refine gd_field ((!c101)) 56 _ 9 rfl ⟨q1, 0, none⟩ ⟨q1, 9, none⟩ (by cases c101 <;> rfl) (fun h => by cases c101 <;> first | rfl | cases h) (fld56_9 _ _) ?_
    simp only [Act.put, List.setIfInBounds_toArray, List.set_cons_succ, List.set_cons_zero]
    refine gd_load ((!c101)) 47 _ rfl ⟨q1, 9, none⟩ (.slice sA srcs.length sz) (by cases c101 <;> rfl) (fun h => by cases c101 <;> first | rfl | cases h) (ld47 (show _ = some (.slice sA srcs.length sz : Value) from hq1 9)) ?_
    simp only [Act.put, List.setIfInBounds_toArray, List.set_cons_succ, List.set_cons_zero]
    refine gd_len ((!c101)) _ 47 _ rfl Try.underlying47 _ (srcs.length) _ (by cases c101 <;> rfl) (fun h => by cases c101 <;> first | rfl | cases h) ?_
    simp only [Act.put, List.setIfInBounds_toArray, List.set_cons_succ, List.set_cons_zero]
    refine gd_field ((!c101)) 56 _ 9 rfl ⟨q2, 0, none⟩ ⟨q2, 9, none⟩ (by cases c101 <;> rfl) (fun h => by cases c101 <;> first | rfl | cases h) (fld56_9 _ _) ?_
    simp only [Act.put, List.setIfInBounds_toArray, List.set_cons_succ, List.set_cons_zero]
    refine gd_load ((!c101)) 47 _ rfl ⟨q2, 9, none⟩ (.slice sA' srcs'.length sz') (by cases c101 <;> rfl) (fun h => by cases c101 <;> first | rfl | cases h) (ld47 (show _ = some (.slice sA' srcs'.length sz' : Value) from hq2 9)) ?_
    simp only [Act.put, List.setIfInBounds_toArray, List.set_cons_succ, List.set_cons_zero]
    refine gd_len ((!c101)) _ 47 _ rfl Try.underlying47 _ (srcs'.length) _ (by cases c101 <;> rfl) (fun h => by cases c101 <;> first | rfl | cases h) ?_
    simp only [Act.put, List.setIfInBounds_toArray, List.set_cons_succ, List.set_cons_zero]
    refine gd_bin ((!c101)) .neq 3 _ _ _ rfl (.int .i64 (srcs.length : Int)) (.int .i64 (srcs'.length : Int)) (.bool ((srcs.length : Int) != (srcs'.length : Int))) (by cases c101 <;> rfl) (fun h => by cases c101 <;> first | rfl | cases h) (fun h => by cases c101 <;> first | rfl | cases h) (eqg_int _ _ _ _ _ _ _ _) (bneq3 _ _ _) ?_
    simp only [Act.put, List.setIfInBounds_toArray, List.set_cons_succ, List.set_cons_zero]
    refine gd_or _ _ rfl rfl c101 ((srcs.length : Int) != (srcs'.length : Int)) rfl (fun h => by cases c101 <;> first | rfl | cases h) ?_
    simp only [Act.put, List.setIfInBounds_toArray, List.set_cons_succ, List.set_cons_zero]
    obtain ⟨c102, hc102⟩ : ∃ c : Bool, c = (c101 || (srcs.length : Int) != (srcs'.length : Int)) := ⟨_, rfl⟩
    rw [← hc102]
    have Hc102 := Lib.hid hc102
    clear hc102
    refine gd_move _ rfl rfl (.bool c102) rfl ?_
    simp only [Act.put, List.setIfInBounds_toArray, List.set_cons_succ, List.set_cons_zero]
    refine gd_field ((!c102)) 56 _ 10 rfl ⟨q1, 0, none⟩ ⟨q1, 10, none⟩ (by cases c102 <;> rfl) (fun h => by cases c102 <;> first | rfl | cases h) (fld56_10 _ _) ?_
    simp only [Act.put, List.setIfInBounds_toArray, List.set_cons_succ, List.set_cons_zero]
    refine gd_load ((!c102)) 44 _ rfl ⟨q1, 10, none⟩ (.slice qA seqs.length qz) (by cases c102 <;> rfl) (fun h => by cases c102 <;> first | rfl | cases h) (ld44 (show _ = some (.slice qA seqs.length qz : Value) from hq1 10)) ?_
    simp only [Act.put, List.setIfInBounds_toArray, List.set_cons_succ, List.set_cons_zero]
    refine gd_len ((!c102)) _ 44 _ rfl Try.underlying44 _ (seqs.length) _ (by cases c102 <;> rfl) (fun h => by cases c102 <;> first | rfl | cases h) ?_
    simp only [Act.put, List.setIfInBounds_toArray, List.set_cons_succ, List.set_cons_zero]
    refine gd_field ((!c102)) 56 _ 10 rfl ⟨q2, 0, none⟩ ⟨q2, 10, none⟩ (by cases c102 <;> rfl) (fun h => by cases c102 <;> first | rfl | cases h) (fld56_10 _ _) ?_
    simp only [Act.put, List.setIfInBounds_toArray, List.set_cons_succ, List.set_cons_zero]
    refine gd_load ((!c102)) 44 _ rfl ⟨q2, 10, none⟩ (.slice qA' seqs'.length qz') (by cases c102 <;> rfl) (fun h => by cases c102 <;> first | rfl | cases h) (ld44 (show _ = some (.slice qA' seqs'.length qz' : Value) from hq2 10)) ?_
    simp only [Act.put, List.setIfInBounds_toArray, List.set_cons_succ, List.set_cons_zero]
    refine gd_len ((!c102)) _ 44 _ rfl Try.underlying44 _ (seqs'.length) _ (by cases c102 <;> rfl) (fun h => by cases c102 <;> first | rfl | cases h) ?_
    simp only [Act.put, List.setIfInBounds_toArray, List.set_cons_succ, List.set_cons_zero]
    refine gd_bin ((!c102)) .neq 3 _ _ _ rfl (.int .i64 (seqs.length : Int)) (.int .i64 (seqs'.length : Int)) (.bool ((seqs.length : Int) != (seqs'.length : Int))) (by cases c102 <;> rfl) (fun h => by cases c102 <;> first | rfl | cases h) (fun h => by cases c102 <;> first | rfl | cases h) (eqg_int _ _ _ _ _ _ _ _) (bneq3 _ _ _) ?_
    simp only [Act.put, List.setIfInBounds_toArray, List.set_cons_succ, List.set_cons_zero]
    refine gd_or _ _ rfl rfl c102 ((seqs.length : Int) != (seqs'.length : Int)) rfl (fun h => by cases c102 <;> first | rfl | cases h) ?_
    simp only [Act.put, List.setIfInBounds_toArray, List.set_cons_succ, List.set_cons_zero]
    obtain ⟨c103, hc103⟩ : ∃ c : Bool, c = (c102 || (seqs.length : Int) != (seqs'.length : Int)) := ⟨_, rfl⟩
    rw [← hc103]
    have Hc103 := Lib.hid hc103
    clear hc103
    refine gd_move _ rfl rfl (.bool c103) rfl ?_
    simp only [Act.put, List.setIfInBounds_toArray, List.set_cons_succ, List.set_cons_zero]
    refine gd_field ((!c103)) 56 _ 14 rfl ⟨q1, 0, none⟩ ⟨q1, 14, none⟩ (by cases c103 <;> rfl) (fun h => by cases c103 <;> first | rfl | cases h) (fld56_14 _ _) ?_
    simp only [Act.put, List.setIfInBounds_toArray, List.set_cons_succ, List.set_cons_zero]
    refine gd_load ((!c103)) 48 _ rfl ⟨q1, 14, none⟩ (.slice aA arrs.length az) (by cases c103 <;> rfl) (fun h => by cases c103 <;> first | rfl | cases h) (ld48 (show _ = some (.slice aA arrs.length az : Value) from hq1 14)) ?_
    simp only [Act.put, List.setIfInBounds_toArray, List.set_cons_succ, List.set_cons_zero]
    refine gd_len ((!c103)) _ 48 _ rfl Try.underlying48 _ (arrs.length) _ (by cases c103 <;> rfl) (fun h => by cases c103 <;> first | rfl | cases h) ?_
    simp only [Act.put, List.setIfInBounds_toArray, List.set_cons_succ, List.set_cons_zero]
    refine gd_field ((!c103)) 56 _ 14 rfl ⟨q2, 0, none⟩ ⟨q2, 14, none⟩ (by cases c103 <;> rfl) (fun h => by cases c103 <;> first | rfl | cases h) (fld56_14 _ _) ?_
    simp only [Act.put, List.setIfInBounds_toArray, List.set_cons_succ, List.set_cons_zero]
    refine gd_load ((!c103)) 48 _ rfl ⟨q2, 14, none⟩ (.slice aA' arrs'.length az') (by cases c103 <;> rfl) (fun h => by cases c103 <;> first | rfl | cases h) (ld48 (show _ = some (.slice aA' arrs'.length az' : Value) from hq2 14)) ?_
    simp only [Act.put, List.setIfInBounds_toArray, List.set_cons_succ, List.set_cons_zero]
    refine gd_len ((!c103)) _ 48 _ rfl Try.underlying48 _ (arrs'.length) _ (by cases c103 <;> rfl) (fun h => by cases c103 <;> first | rfl | cases h) ?_
    simp only [Act.put, List.setIfInBounds_toArray, List.set_cons_succ, List.set_cons_zero]
    refine gd_bin ((!c103)) .neq 3 _ _ _ rfl (.int .i64 (arrs.length : Int)) (.int .i64 (arrs'.length : Int)) (.bool ((arrs.length : Int) != (arrs'.length : Int))) (by cases c103 <;> rfl) (fun h => by cases c103 <;> first | rfl | cases h) (fun h => by cases c103 <;> first | rfl | cases h) (eqg_int _ _ _ _ _ _ _ _) (bneq3 _ _ _) ?_
    simp only [Act.put, List.setIfInBounds_toArray, List.set_cons_succ, List.set_cons_zero]
    refine gd_or _ _ rfl rfl c103 ((arrs.length : Int) != (arrs'.length : Int)) rfl (fun h => by cases c103 <;> first | rfl | cases h) ?_
    simp only [Act.put, List.setIfInBounds_toArray, List.set_cons_succ, List.set_cons_zero]
    obtain ⟨c104, hc104⟩ : ∃ c : Bool, c = (c103 || (arrs.length : Int) != (arrs'.length : Int)) := ⟨_, rfl⟩
    rw [← hc104]
    have Hc104 := Lib.hid hc104
    clear hc104
    refine gd_move _ rfl rfl (.bool c104) rfl ?_
    simp only [Act.put, List.setIfInBounds_toArray, List.set_cons_succ, List.set_cons_zero]
    refine gd_field ((!c104)) 56 _ 15 rfl ⟨q1, 0, none⟩ ⟨q1, 15, none⟩ (by cases c104 <;> rfl) (fun h => by cases c104 <;> first | rfl | cases h) (fld56_15 _ _) ?_
    simp only [Act.put, List.setIfInBounds_toArray, List.set_cons_succ, List.set_cons_zero]
    refine gd_load ((!c104)) 54 _ rfl ⟨q1, 15, none⟩ (.slice wA wants.length wz) (by cases c104 <;> rfl) (fun h => by cases c104 <;> first | rfl | cases h) (ld54 (show _ = some (.slice wA wants.length wz : Value) from hq1 15)) ?_
    simp only [Act.put, List.setIfInBounds_toArray, List.set_cons_succ, List.set_cons_zero]
    refine gd_len ((!c104)) _ 54 _ rfl Try.underlying54 _ (wants.length) _ (by cases c104 <;> rfl) (fun h => by cases c104 <;> first | rfl | cases h) ?_
    simp only [Act.put, List.setIfInBounds_toArray, List.set_cons_succ, List.set_cons_zero]
    refine gd_field ((!c104)) 56 _ 15 rfl ⟨q2, 0, none⟩ ⟨q2, 15, none⟩ (by cases c104 <;> rfl) (fun h => by cases c104 <;> first | rfl | cases h) (fld56_15 _ _) ?_
    simp only [Act.put, List.setIfInBounds_toArray, List.set_cons_succ, List.set_cons_zero]
    refine gd_load ((!c104)) 54 _ rfl ⟨q2, 15, none⟩ (.slice wA' wants'.length wz') (by cases c104 <;> rfl) (fun h => by cases c104 <;> first | rfl | cases h) (ld54 (show _ = some (.slice wA' wants'.length wz' : Value) from hq2 15)) ?_
    simp only [Act.put, List.setIfInBounds_toArray, List.set_cons_succ, List.set_cons_zero]
    refine gd_len ((!c104)) _ 54 _ rfl Try.underlying54 _ (wants'.length) _ (by cases c104 <;> rfl) (fun h => by cases c104 <;> first | rfl | cases h) ?_
    simp only [Act.put, List.setIfInBounds_toArray, List.set_cons_succ, List.set_cons_zero]
    refine gd_bin ((!c104)) .neq 3 _ _ _ rfl (.int .i64 (wants.length : Int)) (.int .i64 (wants'.length : Int)) (.bool ((wants.length : Int) != (wants'.length : Int))) (by cases c104 <;> rfl) (fun h => by cases c104 <;> first | rfl | cases h) (fun h => by cases c104 <;> first | rfl | cases h) (eqg_int _ _ _ _ _ _ _ _) (bneq3 _ _ _) ?_
    simp only [Act.put, List.setIfInBounds_toArray, List.set_cons_succ, List.set_cons_zero]
    refine gd_or _ _ rfl rfl c104 ((wants.length : Int) != (wants'.length : Int)) rfl (fun h => by cases c104 <;> first | rfl | cases h) ?_
    simp only [Act.put, List.setIfInBounds_toArray, List.set_cons_succ, List.set_cons_zero]
    obtain ⟨c105, hc105⟩ : ∃ c : Bool, c = (c104 || (wants.length : Int) != (wants'.length : Int)) := ⟨_, rfl⟩
    rw [← hc105]
    have Hc105 := Lib.hid hc105
    clear hc105
    have HX := Lib.hid (show c105 = ((reps.length : Int) != (reps'.length : Int) || (srcs.length : Int) != (srcs'.length : Int) || (seqs.length : Int) != (seqs'.length : Int) || (arrs.length : Int) != (arrs'.length : Int) || (wants.length : Int) != (wants'.length : Int)) from by rw [Hc105.out, Hc104.out, Hc103.out, Hc102.out, Hc101.out])
    clear Hc101 Hc102 Hc103 Hc104 Hc105
    generalize c105 = d2 at HX ⊢
    cases d2
    case true =>
      have HE := Lib.hid (HSS.out.trans (sameB_no (fun e => (same_len (reps := reps) (reps' := reps') (srcs := srcs) (srcs' := srcs') (seqs := seqs) (seqs' := seqs') (arrs := arrs) (arrs' := arrs') (wants := wants) (wants' := wants') true HX.out).1 rfl (by injection e with e0 e1 e2 e3 e4 e5 e6 e7 e8 e9 e10 e11 e12 e13 e14 e15; exact ⟨e7, e9, e10, e14, e15⟩))))
      go_wp2
      go_returns
      exact Ret.mk (.refl I) HS1.out.drop.drop ⟨rfl, congrArg Value.bool HE.out.symm, rfl⟩
    case false =>
      have HL := Lib.hid ((same_len (reps := reps) (reps' := reps') (srcs := srcs) (srcs' := srcs') (seqs := seqs) (seqs' := seqs') (arrs := arrs) (arrs' := arrs') (wants := wants) (wants' := wants') false HX.out).2 rfl)
      clear HX hq1 hf1 hl1 hq2 hf2 hl2

      obtain ⟨hq1, _, _⟩ := Blk.all (HS1.out.at 1 rfl)
      obtain ⟨hq2, _, _⟩ := Blk.all (HS1.out.at 0 rfl)
      go_upto_block 0 with fail
      go_cut [] (fun wx => St I (bk q2 56 #[.int .i64 kind', .int .u32 sender', .int .u32 media', .int .u64 ntp', .int .u32 rtp', .int .u32 pkts', .int .u32 octs', .slice rA' reps'.length rz', .string name', .slice sA' srcs'.length sz', .slice qA' seqs'.length qz', .int .u16 base', .int .u32 ref', .int .u8 count', .slice aA' arrs'.length az', .slice wA' wants'.length wz'] :: bk q1 56 #[.int .i64 kind, .int .u32 sender, .int .u32 media, .int .u64 ntp, .int .u32 rtp, .int .u32 pkts, .int .u32 octs, .slice rA reps.length rz, .string name, .slice sA srcs.length sz, .slice qA seqs.length qz, .int .u16 base, .int .u32 ref, .int .u8 count, .slice aA arrs.length az, .slice wA wants.length wz] :: M) wx ∧ reps = reps')
      case first =>
        clear hq1 hq2
        go_wp2_with fail
        go_loopw [131] (fun iv wr => ∃ k : Nat, k ≤ reps.length ∧ iv = .int .i64 k ∧ Hid ((∀ j (h1 : j < reps.length) (h2 : j < reps'.length), j < k → reps[j] = reps'[j]) ∧ St I (bk q2 56 #[.int .i64 kind', .int .u32 sender', .int .u32 media', .int .u64 ntp', .int .u32 rtp', .int .u32 pkts', .int .u32 octs', .slice rA' reps'.length rz', .string name', .slice sA' srcs'.length sz', .slice qA' seqs'.length qz', .int .u16 base', .int .u32 ref', .int .u8 count', .slice aA' arrs'.length az', .slice wA' wants'.length wz'] :: bk q1 56 #[.int .i64 kind, .int .u32 sender, .int .u32 media, .int .u64 ntp, .int .u32 rtp, .int .u32 pkts, .int .u32 octs, .slice rA reps.length rz, .string name, .slice sA srcs.length sz, .slice qA seqs.length qz, .int .u16 base, .int .u32 ref, .int .u8 count, .slice aA arrs.length az, .slice wA wants.length wz] :: M) wr)) (fun iv _ => reps.length - (intOf iv).toNat)
        case atStart => exact ⟨0, Nat.zero_le _, rfl, fun j _ _ h => by omega, HS1.out⟩
        case round =>
          obtain ⟨k, hk, rfl, hh⟩ := hrel
          obtain ⟨hno, hs⟩ := hh.out
          have HNO := Lib.hid hno
          clear hh HS1 hno
          have hln := HL.out.1
          by_cases hlt : k < reps.length
          · have hlt2 : k < reps'.length := by omega
            obtain ⟨g1, o1, e1, hc1⟩ := flat_get (s := 7) (fun _ => rfl) HR.out.1 (by omega) (by decide)
            replace hc1 : ∀ j, j < 7 → ∀ wx N, St I N wx → wx.cell? ⟨g1, o1 + k * 7 + j, none⟩ = (repC reps[k])[j]? := fun j hj wx N hS => hc1 N wx hS k (by omega) j hj
            obtain ⟨x1, hx1⟩ : ∃ x, x = reps[k] := ⟨_, rfl⟩
            rw [← hx1] at hc1
            have HX1 := Lib.hid hx1
            clear hx1
            obtain ⟨g2, o2, e2, hc2⟩ := flat_get (s := 7) (fun _ => rfl) HR.out.2 (by omega) (by decide)
            replace hc2 : ∀ j, j < 7 → ∀ wx N, St I N wx → wx.cell? ⟨g2, o2 + k * 7 + j, none⟩ = (repC reps'[k])[j]? := fun j hj wx N hS => hc2 N wx hS k (by omega) j hj
            obtain ⟨x2, hx2⟩ : ∃ x, x = reps'[k] := ⟨_, rfl⟩
            rw [← hx2] at hc2
            have HX2 := Lib.hid hx2
            clear hx2
            subst e1 e2
            have hs' := hs
            obtain ⟨hq1, _, _⟩ := Blk.all (hs.at 1 rfl)
            obtain ⟨hq2, _, _⟩ := Blk.all (hs.at 0 rfl)
            have z10 : wr.cell? ⟨g1, o1 + k * 7, none⟩ = some (.int .u32 x1.src)   := hc1 0 (by decide) _ _ hs
            have z11 : wr.cell? ⟨g1, o1 + k * 7 + 1, none⟩ = some (.int .u8 x1.lost)   := hc1 1 (by decide) _ _ hs
            have z12 : wr.cell? ⟨g1, o1 + k * 7 + 2, none⟩ = some (.int .u32 x1.total)   := hc1 2 (by decide) _ _ hs
            have z13 : wr.cell? ⟨g1, o1 + k * 7 + 3, none⟩ = some (.int .u32 x1.high)   := hc1 3 (by decide) _ _ hs
            have z14 : wr.cell? ⟨g1, o1 + k * 7 + 4, none⟩ = some (.int .u32 x1.jit)   := hc1 4 (by decide) _ _ hs
            have z15 : wr.cell? ⟨g1, o1 + k * 7 + 5, none⟩ = some (.int .u32 x1.last)   := hc1 5 (by decide) _ _ hs
            have z16 : wr.cell? ⟨g1, o1 + k * 7 + 6, none⟩ = some (.int .u32 x1.delay)   := hc1 6 (by decide) _ _ hs
            have z20 : wr.cell? ⟨g2, o2 + k * 7, none⟩ = some (.int .u32 x2.src)   := hc2 0 (by decide) _ _ hs
            have z21 : wr.cell? ⟨g2, o2 + k * 7 + 1, none⟩ = some (.int .u8 x2.lost)   := hc2 1 (by decide) _ _ hs
            have z22 : wr.cell? ⟨g2, o2 + k * 7 + 2, none⟩ = some (.int .u32 x2.total)   := hc2 2 (by decide) _ _ hs
            have z23 : wr.cell? ⟨g2, o2 + k * 7 + 3, none⟩ = some (.int .u32 x2.high)   := hc2 3 (by decide) _ _ hs
            have z24 : wr.cell? ⟨g2, o2 + k * 7 + 4, none⟩ = some (.int .u32 x2.jit)   := hc2 4 (by decide) _ _ hs
            have z25 : wr.cell? ⟨g2, o2 + k * 7 + 5, none⟩ = some (.int .u32 x2.last)   := hc2 5 (by decide) _ _ hs
            have z26 : wr.cell? ⟨g2, o2 + k * 7 + 6, none⟩ = some (.int .u32 x2.delay)   := hc2 6 (by decide) _ _ hs
            have HS := Lib.hid hs
            clear hc1 hc2 hs hs'
            cases hb : eqRp x1 x2
            · have hne := fun wx => (neq64 x1 x2 wx).trans (by rw [hb])
              have HB := Lib.hid (show x1 ≠ x2 from fun e => by rw [(eqRp_iff x1 x2).2 e] at hb; cases hb)
              clear hb
              have HE := Lib.hid (HSS.out.trans (sameB_no (fun e => by injection e with e0 e1 e2 e3 e4 e5 e6 e7 e8 e9 e10 e11 e12 e13 e14 e15; refine HB.out (HX1.out.trans (Eq.trans ?_ HX2.out.symm)); exact List.getElem_of_eq e7 _)))
              clear HB HX1 HX2
              go_wp2
              go_quiet (fail)
              have HS2 := Lib.hid (HS.out.drewN nq)
              clear z10 z11 z12 z13 z14 z15 z16 z20 z21 z22 z23 z24 z25 z26 HS
              go_wp2
              go_returns
              exact Ret.mk (.refl I) HS2.out.drop.drop ⟨rfl, congrArg Value.bool HE.out.symm, rfl⟩
            · have hne := fun wx => (neq64 x1 x2 wx).trans (by rw [hb])
              have HB := Lib.hid ((eqRp_iff x1 x2).1 hb)
              clear hb
              have HNO2 := Lib.hid (show ∀ j (h1 : j < reps.length) (h2 : j < reps'.length), j < k + 1 → reps[j] = reps'[j] from fun j h1 h2 h => by
                by_cases e : j = k
                · subst e; exact HX1.out.symm.trans (HB.out.trans HX2.out)
                · exact HNO.out j h1 h2 (by omega))
              clear HB HX1 HX2
              go_wp2
              go_quiet (fail)
              have HS2 := Lib.hid (HS.out.drewN nq)
              clear z10 z11 z12 z13 z14 z15 z16 z20 z21 z22 z23 z24 z25 z26 HS
              go_wp2
              go_roundw
              case rel => exact ⟨k + 1, by omega, by go_num, HNO2.out, HS2.out⟩
              case measure => simp [intOf]; omega
          · have HE := Lib.hid (show reps = reps' from eq_of_get hln (fun j h1 h2 => HNO.out j h1 h2 (by omega)))
            have HS := Lib.hid hs
            clear hs
            go_wp2
            go_meet
            exact ⟨HS.out, HE.out⟩
      case rest =>
        obtain ⟨hs, he⟩ := hcut
        have HE0 := Lib.hid he
        clear HS1 hq1 hq2 he
        have HS1 := Lib.hid hs
        clear hs
        obtain ⟨hq1, _, _⟩ := Blk.all (HS1.out.at 1 rfl)
        obtain ⟨hq2, _, _⟩ := Blk.all (HS1.out.at 0 rfl)
        go_upto_block 2 with fail
        go_cut [] (fun wx => St I (bk q2 56 #[.int .i64 kind', .int .u32 sender', .int .u32 media', .int .u64 ntp', .int .u32 rtp', .int .u32 pkts', .int .u32 octs', .slice rA' reps'.length rz', .string name', .slice sA' srcs'.length sz', .slice qA' seqs'.length qz', .int .u16 base', .int .u32 ref', .int .u8 count', .slice aA' arrs'.length az', .slice wA' wants'.length wz'] :: bk q1 56 #[.int .i64 kind, .int .u32 sender, .int .u32 media, .int .u64 ntp, .int .u32 rtp, .int .u32 pkts, .int .u32 octs, .slice rA reps.length rz, .string name, .slice sA srcs.length sz, .slice qA seqs.length qz, .int .u16 base, .int .u32 ref, .int .u8 count, .slice aA arrs.length az, .slice wA wants.length wz] :: M) wx ∧ srcs = srcs')
        case first =>
          clear hq1 hq2
          go_wp2_with fail
          go_loopw [149] (fun iv wr => ∃ k : Nat, k ≤ srcs.length ∧ iv = .int .i64 k ∧ Hid ((∀ j (h1 : j < srcs.length) (h2 : j < srcs'.length), j < k → srcs[j] = srcs'[j]) ∧ St I (bk q2 56 #[.int .i64 kind', .int .u32 sender', .int .u32 media', .int .u64 ntp', .int .u32 rtp', .int .u32 pkts', .int .u32 octs', .slice rA' reps'.length rz', .string name', .slice sA' srcs'.length sz', .slice qA' seqs'.length qz', .int .u16 base', .int .u32 ref', .int .u8 count', .slice aA' arrs'.length az', .slice wA' wants'.length wz'] :: bk q1 56 #[.int .i64 kind, .int .u32 sender, .int .u32 media, .int .u64 ntp, .int .u32 rtp, .int .u32 pkts, .int .u32 octs, .slice rA reps.length rz, .string name, .slice sA srcs.length sz, .slice qA seqs.length qz, .int .u16 base, .int .u32 ref, .int .u8 count, .slice aA arrs.length az, .slice wA wants.length wz] :: M) wr)) (fun iv _ => srcs.length - (intOf iv).toNat)
          case atStart => exact ⟨0, Nat.zero_le _, rfl, fun j _ _ h => by omega, HS1.out⟩
          case round =>
            obtain ⟨k, hk, rfl, hh⟩ := hrel
            obtain ⟨hno, hs⟩ := hh.out
            have HNO := Lib.hid hno
            clear hh HS1 hno
            have hln := HL.out.2.1
            by_cases hlt : k < srcs.length
            · have hlt2 : k < srcs'.length := by omega
              obtain ⟨g1, o1, e1, hc1⟩ := flat_get (s := 1) (fun _ => rfl) HS.out.1 (by omega) (by decide)
              replace hc1 : ∀ j, j < 1 → ∀ wx N, St I N wx → wx.cell? ⟨g1, o1 + k * 1 + j, none⟩ = (u32C srcs[k])[j]? := fun j hj wx N hS => hc1 N wx hS k (by omega) j hj
              obtain ⟨x1, hx1⟩ : ∃ x, x = srcs[k] := ⟨_, rfl⟩
              rw [← hx1] at hc1
              have HX1 := Lib.hid hx1
              clear hx1
              obtain ⟨g2, o2, e2, hc2⟩ := flat_get (s := 1) (fun _ => rfl) HS.out.2 (by omega) (by decide)
              replace hc2 : ∀ j, j < 1 → ∀ wx N, St I N wx → wx.cell? ⟨g2, o2 + k * 1 + j, none⟩ = (u32C srcs'[k])[j]? := fun j hj wx N hS => hc2 N wx hS k (by omega) j hj
              obtain ⟨x2, hx2⟩ : ∃ x, x = srcs'[k] := ⟨_, rfl⟩
              rw [← hx2] at hc2
              have HX2 := Lib.hid hx2
              clear hx2
              subst e1 e2
              have hs' := hs
              obtain ⟨hq1, _, _⟩ := Blk.all (hs.at 1 rfl)
              obtain ⟨hq2, _, _⟩ := Blk.all (hs.at 0 rfl)
              simp only [Nat.mul_one] at hc1 hc2
              have z10 : wr.cell? ⟨g1, o1 + k, none⟩ = some (.int .u32 x1)   := hc1 0 (by decide) _ _ hs
              have z20 : wr.cell? ⟨g2, o2 + k, none⟩ = some (.int .u32 x2)   := hc2 0 (by decide) _ _ hs
              have HS := Lib.hid hs
              clear hc1 hc2 hs hs'
              by_cases hb : x1 = x2
              · have hxx : (x1 != x2) = false := by rw [hb]; simp
                have HB := Lib.hid hb
                clear hb
                have HNO2 := Lib.hid (show ∀ j (h1 : j < srcs.length) (h2 : j < srcs'.length), j < k + 1 → srcs[j] = srcs'[j] from fun j h1 h2 h => by
                  by_cases e : j = k
                  · subst e; exact HX1.out.symm.trans (HB.out.trans HX2.out)
                  · exact HNO.out j h1 h2 (by omega))
                clear HB HX1 HX2
                go_wp2
                go_quiet (fail)
                have HS2 := Lib.hid (HS.out.drewN nq)
                clear z10 z20 HS
                go_wp2
                go_roundw
                case rel => exact ⟨k + 1, by omega, by go_num, HNO2.out, HS2.out⟩
                case measure => simp [intOf]; omega
              · have hxx : (x1 != x2) = true := by simp [hb]
                have HB := Lib.hid hb
                clear hb
                have HE := Lib.hid (HSS.out.trans (sameB_no (fun e => by injection e with e0 e1 e2 e3 e4 e5 e6 e7 e8 e9 e10 e11 e12 e13 e14 e15; refine HB.out (HX1.out.trans (Eq.trans ?_ HX2.out.symm)); exact List.getElem_of_eq e9 _)))
                clear HB HX1 HX2
                go_wp2
                go_quiet (fail)
                have HS2 := Lib.hid (HS.out.drewN nq)
                clear z10 z20 HS
                go_wp2
                go_returns
                exact Ret.mk (.refl I) HS2.out.drop.drop ⟨rfl, congrArg Value.bool HE.out.symm, rfl⟩
            · have HE := Lib.hid (show srcs = srcs' from eq_of_get hln (fun j h1 h2 => HNO.out j h1 h2 (by omega)))
              have HS := Lib.hid hs
              clear hs
              go_wp2
              go_meet
              exact ⟨HS.out, HE.out⟩
        case rest =>
          obtain ⟨hs, he⟩ := hcut
          have HE1 := Lib.hid he
          clear HS1 hq1 hq2 he
          have HS1 := Lib.hid hs
          clear hs
          obtain ⟨hq1, _, _⟩ := Blk.all (HS1.out.at 1 rfl)
          obtain ⟨hq2, _, _⟩ := Blk.all (HS1.out.at 0 rfl)
          go_upto_block 4 with fail
          go_cut [] (fun wx => St I (bk q2 56 #[.int .i64 kind', .int .u32 sender', .int .u32 media', .int .u64 ntp', .int .u32 rtp', .int .u32 pkts', .int .u32 octs', .slice rA' reps'.length rz', .string name', .slice sA' srcs'.length sz', .slice qA' seqs'.length qz', .int .u16 base', .int .u32 ref', .int .u8 count', .slice aA' arrs'.length az', .slice wA' wants'.length wz'] :: bk q1 56 #[.int .i64 kind, .int .u32 sender, .int .u32 media, .int .u64 ntp, .int .u32 rtp, .int .u32 pkts, .int .u32 octs, .slice rA reps.length rz, .string name, .slice sA srcs.length sz, .slice qA seqs.length qz, .int .u16 base, .int .u32 ref, .int .u8 count, .slice aA arrs.length az, .slice wA wants.length wz] :: M) wx ∧ seqs = seqs')
          case first =>
            clear hq1 hq2
            go_wp2_with fail
            go_loopw [167] (fun iv wr => ∃ k : Nat, k ≤ seqs.length ∧ iv = .int .i64 k ∧ Hid ((∀ j (h1 : j < seqs.length) (h2 : j < seqs'.length), j < k → seqs[j] = seqs'[j]) ∧ St I (bk q2 56 #[.int .i64 kind', .int .u32 sender', .int .u32 media', .int .u64 ntp', .int .u32 rtp', .int .u32 pkts', .int .u32 octs', .slice rA' reps'.length rz', .string name', .slice sA' srcs'.length sz', .slice qA' seqs'.length qz', .int .u16 base', .int .u32 ref', .int .u8 count', .slice aA' arrs'.length az', .slice wA' wants'.length wz'] :: bk q1 56 #[.int .i64 kind, .int .u32 sender, .int .u32 media, .int .u64 ntp, .int .u32 rtp, .int .u32 pkts, .int .u32 octs, .slice rA reps.length rz, .string name, .slice sA srcs.length sz, .slice qA seqs.length qz, .int .u16 base, .int .u32 ref, .int .u8 count, .slice aA arrs.length az, .slice wA wants.length wz] :: M) wr)) (fun iv _ => seqs.length - (intOf iv).toNat)
            case atStart => exact ⟨0, Nat.zero_le _, rfl, fun j _ _ h => by omega, HS1.out⟩
            case round =>
              obtain ⟨k, hk, rfl, hh⟩ := hrel
              obtain ⟨hno, hs⟩ := hh.out
              have HNO := Lib.hid hno
              clear hh HS1 hno
              have hln := HL.out.2.2.1
              by_cases hlt : k < seqs.length
              · have hlt2 : k < seqs'.length := by omega
                obtain ⟨g1, o1, e1, hc1⟩ := flat_get (s := 1) (fun _ => rfl) HQ.out.1 (by omega) (by decide)
                replace hc1 : ∀ j, j < 1 → ∀ wx N, St I N wx → wx.cell? ⟨g1, o1 + k * 1 + j, none⟩ = (u16C seqs[k])[j]? := fun j hj wx N hS => hc1 N wx hS k (by omega) j hj
                obtain ⟨x1, hx1⟩ : ∃ x, x = seqs[k] := ⟨_, rfl⟩
                rw [← hx1] at hc1
                have HX1 := Lib.hid hx1
                clear hx1
                obtain ⟨g2, o2, e2, hc2⟩ := flat_get (s := 1) (fun _ => rfl) HQ.out.2 (by omega) (by decide)
                replace hc2 : ∀ j, j < 1 → ∀ wx N, St I N wx → wx.cell? ⟨g2, o2 + k * 1 + j, none⟩ = (u16C seqs'[k])[j]? := fun j hj wx N hS => hc2 N wx hS k (by omega) j hj
                obtain ⟨x2, hx2⟩ : ∃ x, x = seqs'[k] := ⟨_, rfl⟩
                rw [← hx2] at hc2
                have HX2 := Lib.hid hx2
                clear hx2
                subst e1 e2
                have hs' := hs
                obtain ⟨hq1, _, _⟩ := Blk.all (hs.at 1 rfl)
                obtain ⟨hq2, _, _⟩ := Blk.all (hs.at 0 rfl)
                simp only [Nat.mul_one] at hc1 hc2
                have z10 : wr.cell? ⟨g1, o1 + k, none⟩ = some (.int .u16 x1)   := hc1 0 (by decide) _ _ hs
                have z20 : wr.cell? ⟨g2, o2 + k, none⟩ = some (.int .u16 x2)   := hc2 0 (by decide) _ _ hs
                have HS := Lib.hid hs
                clear hc1 hc2 hs hs'
                by_cases hb : x1 = x2
                · have hxx : (x1 != x2) = false := by rw [hb]; simp
                  have HB := Lib.hid hb
                  clear hb
                  have HNO2 := Lib.hid (show ∀ j (h1 : j < seqs.length) (h2 : j < seqs'.length), j < k + 1 → seqs[j] = seqs'[j] from fun j h1 h2 h => by
                    by_cases e : j = k
                    · subst e; exact HX1.out.symm.trans (HB.out.trans HX2.out)
                    · exact HNO.out j h1 h2 (by omega))
                  clear HB HX1 HX2
                  go_wp2
                  go_quiet (fail)
                  have HS2 := Lib.hid (HS.out.drewN nq)
                  clear z10 z20 HS
                  go_wp2
                  go_roundw
                  case rel => exact ⟨k + 1, by omega, by go_num, HNO2.out, HS2.out⟩
                  case measure => simp [intOf]; omega
                · have hxx : (x1 != x2) = true := by simp [hb]
                  have HB := Lib.hid hb
                  clear hb
                  have HE := Lib.hid (HSS.out.trans (sameB_no (fun e => by injection e with e0 e1 e2 e3 e4 e5 e6 e7 e8 e9 e10 e11 e12 e13 e14 e15; refine HB.out (HX1.out.trans (Eq.trans ?_ HX2.out.symm)); exact List.getElem_of_eq e10 _)))
                  clear HB HX1 HX2
                  go_wp2
                  go_quiet (fail)
                  have HS2 := Lib.hid (HS.out.drewN nq)
                  clear z10 z20 HS
                  go_wp2
                  go_returns
                  exact Ret.mk (.refl I) HS2.out.drop.drop ⟨rfl, congrArg Value.bool HE.out.symm, rfl⟩
              · have HE := Lib.hid (show seqs = seqs' from eq_of_get hln (fun j h1 h2 => HNO.out j h1 h2 (by omega)))
                have HS := Lib.hid hs
                clear hs
                go_wp2
                go_meet
                exact ⟨HS.out, HE.out⟩
          case rest =>
            obtain ⟨hs, he⟩ := hcut
            have HE2 := Lib.hid he
            clear HS1 hq1 hq2 he
            have HS1 := Lib.hid hs
            clear hs
            obtain ⟨hq1, _, _⟩ := Blk.all (HS1.out.at 1 rfl)
            obtain ⟨hq2, _, _⟩ := Blk.all (HS1.out.at 0 rfl)
            go_upto_block 6 with fail
            go_cut [] (fun wx => St I (bk q2 56 #[.int .i64 kind', .int .u32 sender', .int .u32 media', .int .u64 ntp', .int .u32 rtp', .int .u32 pkts', .int .u32 octs', .slice rA' reps'.length rz', .string name', .slice sA' srcs'.length sz', .slice qA' seqs'.length qz', .int .u16 base', .int .u32 ref', .int .u8 count', .slice aA' arrs'.length az', .slice wA' wants'.length wz'] :: bk q1 56 #[.int .i64 kind, .int .u32 sender, .int .u32 media, .int .u64 ntp, .int .u32 rtp, .int .u32 pkts, .int .u32 octs, .slice rA reps.length rz, .string name, .slice sA srcs.length sz, .slice qA seqs.length qz, .int .u16 base, .int .u32 ref, .int .u8 count, .slice aA arrs.length az, .slice wA wants.length wz] :: M) wx ∧ arrs = arrs')
            case first =>
              clear hq1 hq2
              go_wp2_with fail
              go_loopw [185] (fun iv wr => ∃ k : Nat, k ≤ arrs.length ∧ iv = .int .i64 k ∧ Hid ((∀ j (h1 : j < arrs.length) (h2 : j < arrs'.length), j < k → arrs[j] = arrs'[j]) ∧ St I (bk q2 56 #[.int .i64 kind', .int .u32 sender', .int .u32 media', .int .u64 ntp', .int .u32 rtp', .int .u32 pkts', .int .u32 octs', .slice rA' reps'.length rz', .string name', .slice sA' srcs'.length sz', .slice qA' seqs'.length qz', .int .u16 base', .int .u32 ref', .int .u8 count', .slice aA' arrs'.length az', .slice wA' wants'.length wz'] :: bk q1 56 #[.int .i64 kind, .int .u32 sender, .int .u32 media, .int .u64 ntp, .int .u32 rtp, .int .u32 pkts, .int .u32 octs, .slice rA reps.length rz, .string name, .slice sA srcs.length sz, .slice qA seqs.length qz, .int .u16 base, .int .u32 ref, .int .u8 count, .slice aA arrs.length az, .slice wA wants.length wz] :: M) wr)) (fun iv _ => arrs.length - (intOf iv).toNat)
              case atStart => exact ⟨0, Nat.zero_le _, rfl, fun j _ _ h => by omega, HS1.out⟩
              case round =>
                obtain ⟨k, hk, rfl, hh⟩ := hrel
                obtain ⟨hno, hs⟩ := hh.out
                have HNO := Lib.hid hno
                clear hh HS1 hno
                have hln := HL.out.2.2.2.1
                by_cases hlt : k < arrs.length
                · have hlt2 : k < arrs'.length := by omega
                  obtain ⟨g1, o1, e1, hc1⟩ := flat_get (s := 1) (fun _ => rfl) HA.out.1 (by omega) (by decide)
                  replace hc1 : ∀ j, j < 1 → ∀ wx N, St I N wx → wx.cell? ⟨g1, o1 + k * 1 + j, none⟩ = (intC arrs[k])[j]? := fun j hj wx N hS => hc1 N wx hS k (by omega) j hj
                  obtain ⟨x1, hx1⟩ : ∃ x, x = arrs[k] := ⟨_, rfl⟩
                  rw [← hx1] at hc1
                  have HX1 := Lib.hid hx1
                  clear hx1
                  obtain ⟨g2, o2, e2, hc2⟩ := flat_get (s := 1) (fun _ => rfl) HA.out.2 (by omega) (by decide)
                  replace hc2 : ∀ j, j < 1 → ∀ wx N, St I N wx → wx.cell? ⟨g2, o2 + k * 1 + j, none⟩ = (intC arrs'[k])[j]? := fun j hj wx N hS => hc2 N wx hS k (by omega) j hj
                  obtain ⟨x2, hx2⟩ : ∃ x, x = arrs'[k] := ⟨_, rfl⟩
                  rw [← hx2] at hc2
                  have HX2 := Lib.hid hx2
                  clear hx2
                  subst e1 e2
                  have hs' := hs
                  obtain ⟨hq1, _, _⟩ := Blk.all (hs.at 1 rfl)
                  obtain ⟨hq2, _, _⟩ := Blk.all (hs.at 0 rfl)
                  simp only [Nat.mul_one] at hc1 hc2
                  have z10 : wr.cell? ⟨g1, o1 + k, none⟩ = some (.int .i64 x1)   := hc1 0 (by decide) _ _ hs
                  have z20 : wr.cell? ⟨g2, o2 + k, none⟩ = some (.int .i64 x2)   := hc2 0 (by decide) _ _ hs
                  have HS := Lib.hid hs
                  clear hc1 hc2 hs hs'
                  by_cases hb : x1 = x2
                  · have hxx : (x1 != x2) = false := by rw [hb]; simp
                    have HB := Lib.hid hb
                    clear hb
                    have HNO2 := Lib.hid (show ∀ j (h1 : j < arrs.length) (h2 : j < arrs'.length), j < k + 1 → arrs[j] = arrs'[j] from fun j h1 h2 h => by
                      by_cases e : j = k
                      · subst e; exact HX1.out.symm.trans (HB.out.trans HX2.out)
                      · exact HNO.out j h1 h2 (by omega))
                    clear HB HX1 HX2
                    go_wp2
                    go_quiet (fail)
                    have HS2 := Lib.hid (HS.out.drewN nq)
                    clear z10 z20 HS
                    go_wp2
                    go_roundw
                    case rel => exact ⟨k + 1, by omega, by go_num, HNO2.out, HS2.out⟩
                    case measure => simp [intOf]; omega
                  · have hxx : (x1 != x2) = true := by simp [hb]
                    have HB := Lib.hid hb
                    clear hb
                    have HE := Lib.hid (HSS.out.trans (sameB_no (fun e => by injection e with e0 e1 e2 e3 e4 e5 e6 e7 e8 e9 e10 e11 e12 e13 e14 e15; refine HB.out (HX1.out.trans (Eq.trans ?_ HX2.out.symm)); exact List.getElem_of_eq e14 _)))
                    clear HB HX1 HX2
                    go_wp2
                    go_quiet (fail)
                    have HS2 := Lib.hid (HS.out.drewN nq)
                    clear z10 z20 HS
                    go_wp2
                    go_returns
                    exact Ret.mk (.refl I) HS2.out.drop.drop ⟨rfl, congrArg Value.bool HE.out.symm, rfl⟩
                · have HE := Lib.hid (show arrs = arrs' from eq_of_get hln (fun j h1 h2 => HNO.out j h1 h2 (by omega)))
                  have HS := Lib.hid hs
                  clear hs
                  go_wp2
                  go_meet
                  exact ⟨HS.out, HE.out⟩
            case rest =>
              obtain ⟨hs, he⟩ := hcut
              have HE3 := Lib.hid he
              clear HS1 hq1 hq2 he
              have HS1 := Lib.hid hs
              clear hs
              obtain ⟨hq1, _, _⟩ := Blk.all (HS1.out.at 1 rfl)
              obtain ⟨hq2, _, _⟩ := Blk.all (HS1.out.at 0 rfl)
              go_upto_block 8 with fail
              go_cut [] (fun wx => St I (bk q2 56 #[.int .i64 kind', .int .u32 sender', .int .u32 media', .int .u64 ntp', .int .u32 rtp', .int .u32 pkts', .int .u32 octs', .slice rA' reps'.length rz', .string name', .slice sA' srcs'.length sz', .slice qA' seqs'.length qz', .int .u16 base', .int .u32 ref', .int .u8 count', .slice aA' arrs'.length az', .slice wA' wants'.length wz'] :: bk q1 56 #[.int .i64 kind, .int .u32 sender, .int .u32 media, .int .u64 ntp, .int .u32 rtp, .int .u32 pkts, .int .u32 octs, .slice rA reps.length rz, .string name, .slice sA srcs.length sz, .slice qA seqs.length qz, .int .u16 base, .int .u32 ref, .int .u8 count, .slice aA arrs.length az, .slice wA wants.length wz] :: M) wx ∧ wants = wants')
              case first =>
                clear hq1 hq2
                go_wp2_with fail
                go_loopw [203] (fun iv wr => ∃ k : Nat, k ≤ wants.length ∧ iv = .int .i64 k ∧ Hid ((∀ j (h1 : j < wants.length) (h2 : j < wants'.length), j < k → wants[j] = wants'[j]) ∧ St I (bk q2 56 #[.int .i64 kind', .int .u32 sender', .int .u32 media', .int .u64 ntp', .int .u32 rtp', .int .u32 pkts', .int .u32 octs', .slice rA' reps'.length rz', .string name', .slice sA' srcs'.length sz', .slice qA' seqs'.length qz', .int .u16 base', .int .u32 ref', .int .u8 count', .slice aA' arrs'.length az', .slice wA' wants'.length wz'] :: bk q1 56 #[.int .i64 kind, .int .u32 sender, .int .u32 media, .int .u64 ntp, .int .u32 rtp, .int .u32 pkts, .int .u32 octs, .slice rA reps.length rz, .string name, .slice sA srcs.length sz, .slice qA seqs.length qz, .int .u16 base, .int .u32 ref, .int .u8 count, .slice aA arrs.length az, .slice wA wants.length wz] :: M) wr)) (fun iv _ => wants.length - (intOf iv).toNat)
                case atStart => exact ⟨0, Nat.zero_le _, rfl, fun j _ _ h => by omega, HS1.out⟩
                case round =>
                  obtain ⟨k, hk, rfl, hh⟩ := hrel
                  obtain ⟨hno, hs⟩ := hh.out
                  have HNO := Lib.hid hno
                  clear hh HS1 hno
                  have hln := HL.out.2.2.2.2
                  by_cases hlt : k < wants.length
                  · have hlt2 : k < wants'.length := by omega
                    obtain ⟨g1, o1, e1, hc1⟩ := flat_get (s := 2) (fun _ => rfl) HW.out.1 (by omega) (by decide)
                    replace hc1 : ∀ j, j < 2 → ∀ wx N, St I N wx → wx.cell? ⟨g1, o1 + k * 2 + j, none⟩ = (wnC wants[k])[j]? := fun j hj wx N hS => hc1 N wx hS k (by omega) j hj
                    obtain ⟨x1, hx1⟩ : ∃ x, x = wants[k] := ⟨_, rfl⟩
                    rw [← hx1] at hc1
                    have HX1 := Lib.hid hx1
                    clear hx1
                    obtain ⟨g2, o2, e2, hc2⟩ := flat_get (s := 2) (fun _ => rfl) HW.out.2 (by omega) (by decide)
                    replace hc2 : ∀ j, j < 2 → ∀ wx N, St I N wx → wx.cell? ⟨g2, o2 + k * 2 + j, none⟩ = (wnC wants'[k])[j]? := fun j hj wx N hS => hc2 N wx hS k (by omega) j hj
                    obtain ⟨x2, hx2⟩ : ∃ x, x = wants'[k] := ⟨_, rfl⟩
                    rw [← hx2] at hc2
                    have HX2 := Lib.hid hx2
                    clear hx2
                    subst e1 e2
                    have hs' := hs
                    obtain ⟨hq1, _, _⟩ := Blk.all (hs.at 1 rfl)
                    obtain ⟨hq2, _, _⟩ := Blk.all (hs.at 0 rfl)
                    have z10 : wr.cell? ⟨g1, o1 + k * 2, none⟩ = some (.int .u32 x1.src)   := hc1 0 (by decide) _ _ hs
                    have z11 : wr.cell? ⟨g1, o1 + k * 2 + 1, none⟩ = some (.int .u8 x1.seq)   := hc1 1 (by decide) _ _ hs
                    have z20 : wr.cell? ⟨g2, o2 + k * 2, none⟩ = some (.int .u32 x2.src)   := hc2 0 (by decide) _ _ hs
                    have z21 : wr.cell? ⟨g2, o2 + k * 2 + 1, none⟩ = some (.int .u8 x2.seq)   := hc2 1 (by decide) _ _ hs
                    have HS := Lib.hid hs
                    clear hc1 hc2 hs hs'
                    cases hb : eqWn x1 x2
                    · have hne := fun wx => (neq67 x1 x2 wx).trans (by rw [hb])
                      have HB := Lib.hid (show x1 ≠ x2 from fun e => by rw [(eqWn_iff x1 x2).2 e] at hb; cases hb)
                      clear hb
                      have HE := Lib.hid (HSS.out.trans (sameB_no (fun e => by injection e with e0 e1 e2 e3 e4 e5 e6 e7 e8 e9 e10 e11 e12 e13 e14 e15; refine HB.out (HX1.out.trans (Eq.trans ?_ HX2.out.symm)); exact List.getElem_of_eq e15 _)))
                      clear HB HX1 HX2
                      go_wp2
                      go_quiet (fail)
                      have HS2 := Lib.hid (HS.out.drewN nq)
                      clear z10 z11 z20 z21 HS
                      go_wp2
                      go_returns
                      exact Ret.mk (.refl I) HS2.out.drop.drop ⟨rfl, congrArg Value.bool HE.out.symm, rfl⟩
                    · have hne := fun wx => (neq67 x1 x2 wx).trans (by rw [hb])
                      have HB := Lib.hid ((eqWn_iff x1 x2).1 hb)
                      clear hb
                      have HNO2 := Lib.hid (show ∀ j (h1 : j < wants.length) (h2 : j < wants'.length), j < k + 1 → wants[j] = wants'[j] from fun j h1 h2 h => by
                        by_cases e : j = k
                        · subst e; exact HX1.out.symm.trans (HB.out.trans HX2.out)
                        · exact HNO.out j h1 h2 (by omega))
                      clear HB HX1 HX2
                      go_wp2
                      go_quiet (fail)
                      have HS2 := Lib.hid (HS.out.drewN nq)
                      clear z10 z11 z20 z21 HS
                      go_wp2
                      go_roundw
                      case rel => exact ⟨k + 1, by omega, by go_num, HNO2.out, HS2.out⟩
                      case measure => simp [intOf]; omega
                  · have HE := Lib.hid (show wants = wants' from eq_of_get hln (fun j h1 h2 => HNO.out j h1 h2 (by omega)))
                    have HS := Lib.hid hs
                    clear hs
                    go_wp2
                    go_meet
                    exact ⟨HS.out, HE.out⟩
              case rest =>
                obtain ⟨hs, he⟩ := hcut
                have HE4 := Lib.hid he
                clear HS1 hq1 hq2 he
                have HS1 := Lib.hid hs
                clear hs
                obtain ⟨a1, a2, a3, a4, a5, a6, a7, a8, a9, a10, a11⟩ := HSC.out
                have HE := Lib.hid (HSS.out.trans (sameB_yes (by rw [a1, a2, a3, a4, a5, a6, a7, a8, a9, a10, a11, HE0.out, HE1.out, HE2.out, HE3.out, HE4.out])))
                clear a1 a2 a3 a4 a5 a6 a7 a8 a9 a10 a11
                go_wp2
                go_returns
                exact Ret.mk (.refl I) HS1.out.drop.drop ⟨rfl, congrArg Value.bool HE.out.symm, rfl⟩
end Go.Proofs.Ytddopbbmgpnjjaa
