/- strings.Builder, at its place in memory. -/
import Derived.Test.YtpbbincgddmbiaaSdP
import Derived.Laws.Externs
namespace Go.Proofs.Ytpbbincgddmbiaa
open Go.RowKit
set_option linter.unusedSimpArgs false

theorem sizeBld : (Try.prog.info? 75).map (·.size) = some 2 := by kernel_rfl
theorem liesBld : liesAt Try.prog Try.prog.depth 75 (2 / Try.prog.cellsOf 75) 0 75 1 = true := by kernel_rfl
theorem infoU8 : (Try.prog.info? 5).map (fun i => (i.zero, i.size, i.bytes)) = some (some (.int .u8 0), 1, 1) := by kernel_rfl
theorem blkShape2 {w : World} {g t : Nat} {a b : Value} (h : Blk w g t #[a, b]) : w.shape? g = some (t, 2) := by
  unfold Blk at h
  simp [World.shape?, h]
set_option maxRecDepth 100000 in
set_option maxHeartbeats 1000000 in
theorem checkC (I : Img) (M : List Res) (w : World) (b : Nat) (p : Option Addr) (v : Value) (hp : p = none ∨ p = some ⟨b, 0, none⟩) (hst : St I (bk b 75 #[.pointer p, v] :: M) w) :
    Calls Try.prog 42 #[.pointer (some ⟨b, 0, none⟩)] w (Ret I (fun _ J M' => I = J ∧ M' = bk b 75 #[.pointer (some ⟨b, 0, none⟩), v] :: M)) := by
  obtain ⟨j, hj, hjs⟩ := Option.map_eq_some_iff.1 sizeBld
  obtain ⟨h0, _, hf, _, hlt⟩ := Blk.two (show Blk w b 75 #[_, _] from hst.head)
  have hsh := blkShape2 (show Blk w b 75 #[_, _] from hst.head)
  rcases hp with rfl | rfl
  · go_enter Try.func42, Try.ntmps42
    go_wp2
    rw [Lib.run_to_unsafe w ⟨b, 0, none⟩ Try.underlying72 Try.underlying94 hj (by rw [hjs]; decide) hsh (Nat.zero_lt_succ 1)]
    simp only [Result.andThen]
    rw [Oper.upon_value]
    go_wp2
    rw [run_callFunc_extern Try.func46 (by kernel_rfl) (by kernel_rfl) (by kernel_rfl) (e := Extern.AbiNoEscape.same) (by kernel_rfl)]
    rw [Lib.run_noEscape]
    simp only [Result.andThen]
    rw [Oper.upon_value]
    go_wp2
    rw [Lib.run_from_unsafe w ⟨b, 0, none⟩ Try.underlying94 Try.underlying72 hj hsh liesBld]
    simp only [Result.andThen]
    rw [Oper.upon_value]
    go_wp2
    go_returns
    exact Ret.mk (.refl I) (hst.set 0 (.pointer (some ⟨b, 0, none⟩))) ⟨rfl, rfl⟩
  · go_enter Try.func42, Try.ntmps42
    go_wp2
    rw [Lib.run_neq_ptr_same w _ Try.underlying72 hj]
    go_wp2
    go_returns
    exact Ret.mk (.refl I) hst ⟨rfl, rfl⟩
/-- a builder that holds bytes -/
def Bld (B b : Nat) (bs : List UInt8) (M N : List Res) : Prop := ∃ p v, (p = none ∨ p = some (⟨b, 0, none⟩ : Addr)) ∧ (∀ g, v.ownBlock = some g → B ≤ g) ∧ N = bk b 75 #[.pointer p, v] :: row 5 1 v bs.length (bvs bs) :: M
set_option maxRecDepth 8000 in
set_option maxHeartbeats 1000000 in
theorem writeC (I : Img) (M N : List Res) (w : World) (B b : Nat) (bs : List UInt8) (s : ByteArray) (hst : St I N w) (hb : Bld B b bs M N) (hB : B ≤ b) (hlen : bs.length + s.size ≤ 140737488355328) :
    Calls Try.prog 28 #[.pointer (some ⟨b, 0, none⟩), .string s] w (Ret I (fun _ J N' => I = J ∧ Bld B b (bs ++ s.data.toList) M N')) := by
  obtain ⟨p, v, hp, hlow, rfl⟩ := hb
  have HC := Lib.hid (checkC I _ w b p v hp hst)
  obtain ⟨i0, hi, hz0, hz1, hz2⟩ := info_parts infoU8
  have HLOW := Lib.hid hlow
  clear hst hp hlow
  go_enter Try.func28, Try.ntmps28
  go_upto_region 2 with (go_at_call 42; refine HC.out.mono ?_; clear HC; rintro e w2 ⟨_, _, _, rfl, _, hs, rfl, rfl⟩; have HS := Lib.hid hs; obtain ⟨A, c, rfl⟩ := own_form (show World.ownsRow _ 0 5 1 v _ _ from hs.at 1 rfl); obtain ⟨h0, h1, hf0, hf1, hlt⟩ := Blk.two (show Blk w2 b 75 #[_, _] from hs.at 0 rfl); clear hs)
  go_wp2_with (at_builtin; (refine wpList_append_src _ rfl _ _ 73 9 rfl 0 5 i0 (.int .u8 0) 1 1 Try.underlying73 hi hz0 hz1 hz2 rfl _ bs.length (bvs bs) rfl (HS.out.at 1 rfl) _ s.size _ rfl (Src.ofString _ Try.underlying9 s) (by unfold maxLen; omega) (by omega) (Nat.zero_le _) ?_))
  intro v' w' hown hgrow hat
  obtain ⟨B', c', rfl⟩ := own_form hown
  have hbc : bvs bs ++ byteCells s = bvs (bs ++ s.data.toList) := by rw [bvs_append]; rfl
  have hlz : bs.length + s.size = (bs ++ s.data.toList).length := by rw [List.length_append, Array.length_toList]; rfl
  have hown2 : w'.ownsRow 0 5 1 (.slice B' (bs.length + s.size) c') (bs ++ s.data.toList).length (bvs (bs ++ s.data.toList)) := by rw [← hbc, ← hlz]; exact hown
  have hs3 := (HS.out.swap1.grown hgrow hown2 hat).swap1
  have hl2 : ∀ g, (Value.slice B' (bs.length + s.size) c').ownBlock = some g → B ≤ g := fun g hg => by
    rcases hat with h | h
    · exact HLOW.out g (h.symm.trans hg)
    · rw [h] at hg
      injection hg with hg
      omega
  clear h0 h1 hf0 hf1 hlt
  obtain ⟨h0, h1, hf0, hf1, hlt⟩ := Blk.two (show Blk w' b 75 #[_, _] from hs3.at 0 rfl)
  have HS3 := Lib.hid hs3
  have HL2 := Lib.hid hl2
  clear hown hown2 hgrow hat hs3 hl2 hbc hlz
  go_wp2
  go_returns
  exact Ret.mk (.refl I) (HS3.out.set 1 _) ⟨rfl, _, _, .inr rfl, HL2.out, rfl⟩
/-- behind a call that keeps all that was there when a state was met -/
theorem St.low {I J : Img} {M : List Res} {w0 w w' : World} (h0 : St I M w0) (hl : J = I) (h : St J M w) (hb : Below w0.heap.size w w') : St J M w' := by
  subst hl
  exact ⟨hb.os.trans h.os, hb.tape.trans h.tape, hb.output.trans h.output, fun k o hk => (hb.block k (Array.getElem?_eq_some_iff.1 (h0.img k o hk)).1).trans (h.img k o hk),
    fun r hr => r.loc w w' (h.res r hr) (fun b hb' => hb.block b (r.lt w0 (h0.res r hr) b hb')), h.apart, h.away⟩
theorem own_up {w : World} {e size n B : Nat} {v : Value} {xs : List Value} (h : w.ownsRow 0 e size v n xs) (hl : ∀ g, v.ownBlock = some g → B ≤ g) : w.ownsRow B e size v n xs := by
  refine ⟨h.1, ?_⟩
  rcases h.2 with h2 | ⟨g, cap, cur, hv, hg, r⟩
  · exact .inl h2
  · exact .inr ⟨g, cap, cur, hv, hl g (by rw [hv]; rfl), r⟩
theorem bvs_cells (l : List UInt8) : bvs l = Lib.byteCells l := rfl
/-- the text of a builder: it is not written on any more -/
theorem stringC (I : Img) (M N : List Res) (w0 w : World) (b : Nat) (bs : List UInt8) (h0 : St I M w0) (hst : St I N w) (hb : Bld w0.heap.size b bs M N) (hB : w0.heap.size ≤ b) :
    Calls Try.prog 31 #[.pointer (some ⟨b, 0, none⟩)] w (Ret I (fun v J N' => I = J ∧ v = .string (bsA bs) ∧ N' = M)) := by
  obtain ⟨p, v, hp, hlow, rfl⟩ := hb
  have hbd : Lib.IsBuilder 75 5 w0.heap.size b (Lib.byteCells bs) w := by
    have hown := own_up (show World.ownsRow w 0 5 1 v _ _ from hst.at 1 rfl) hlow
    have hne : v.ownBlock ≠ some b := fun e => (List.pairwise_cons.1 hst.apart).1 _ (List.mem_cons_self ..) b rfl e
    have hlen : (Lib.byteCells bs).length = bs.length := by rw [← bvs_cells, bvs_len]
    have hat : Lib.BuilderAt 75 5 w0.heap.size b (.pointer p) (Lib.byteCells bs) w := ⟨hB, v, hst.head, by rw [hlen]; exact hown, hne⟩
    rcases hp with rfl | rfl
    · exact .inl hat
    · exact .inr hat
  have hbw : w0.heap.size ≤ w.heap.size := by have := Blk.lt (show Blk w b 75 #[_, _] from hst.head); omega
  refine (Try.Builder_String_any w0.heap.size b bs w hbd hbw).mono ?_
  rintro e w' ⟨rfl, hbl⟩
  exact Ret.mk (.refl I) (St.low h0 rfl hst.drop.drop hbl) ⟨rfl, rfl, rfl⟩
theorem lenC (I : Img) (M N : List Res) (w : World) (B b : Nat) (bs : List UInt8) (hst : St I N w) (hb : Bld B b bs M N) (hB : B ≤ b) :
    Calls Try.prog 30 #[.pointer (some ⟨b, 0, none⟩)] w (fun e w' => e = .returned (.int .i64 bs.length) ∧ w' = w) := by
  obtain ⟨p, v, hp, hlow, rfl⟩ := hb
  have hown := own_up (show World.ownsRow w 0 5 1 v _ _ from hst.at 1 rfl) hlow
  have hne : v.ownBlock ≠ some b := fun e => (List.pairwise_cons.1 hst.apart).1 _ (List.mem_cons_self ..) b rfl e
  have hlen : (Lib.byteCells bs).length = bs.length := by rw [← bvs_cells, bvs_len]
  have hat : Lib.BuilderAt 75 5 B b (.pointer p) (Lib.byteCells bs) w := ⟨hB, v, hst.head, by rw [hlen]; exact hown, hne⟩
  have hbd : Lib.IsBuilder 75 5 B b (Lib.byteCells bs) w := by
    rcases hp with rfl | rfl
    · exact .inl hat
    · exact .inr hat
  have := Try.Builder_Len B b (Lib.byteCells bs) w hbd
  rw [hlen] at this
  exact this
end Go.Proofs.Ytpbbincgddmbiaa
