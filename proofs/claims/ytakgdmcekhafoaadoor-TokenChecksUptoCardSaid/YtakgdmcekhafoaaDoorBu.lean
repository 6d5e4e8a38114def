/- strings.Builder, at its place in memory. -/
import Derived.Test.YtakgdmcekhafoaaDoorTx
import Derived.Test.YtakgdmcekhafoaaDoorShelf
import Derived.Laws.Externs
namespace Go.Proofs.YtakgdmcekhafoaaDoor
open Go.RowKit
set_option linter.unusedSimpArgs false

theorem sizeBld : (Tryd.prog.info? 82).map (·.size) = some 2 := by kernel_rfl
theorem liesBld : liesAt Tryd.prog Tryd.prog.depth 82 (2 / Tryd.prog.cellsOf 82) 0 82 1 = true := by kernel_rfl
theorem infoU8 : (Tryd.prog.info? 5).map (fun i => (i.zero, i.size, i.bytes)) = some (some (.int .u8 0), 1, 1) := by kernel_rfl
theorem blkShape2 {w : World} {g t : Nat} {a b : Value} (h : Blk w g t #[a, b]) : w.shape? g = some (t, 2) := by
  unfold Blk at h
  simp [World.shape?, h]
set_option maxRecDepth 100000 in
set_option maxHeartbeats 1000000 in
theorem checkC (I : Img) (M : List Res) (w : World) (b : Nat) (p : Option Addr) (v : Value) (hp : p = none ∨ p = some ⟨b, 0, none⟩) (hst : St I (bk b 82 #[.pointer p, v] :: M) w) :
    Calls Tryd.prog 71 #[.pointer (some ⟨b, 0, none⟩)] w (Ret I (fun _ J M' => I = J ∧ M' = bk b 82 #[.pointer (some ⟨b, 0, none⟩), v] :: M)) := by
  obtain ⟨j, hj, hjs⟩ := Option.map_eq_some_iff.1 sizeBld
  obtain ⟨h0, _, hf, _, hlt⟩ := Blk.two (show Blk w b 82 #[_, _] from hst.head)
  have hsh := blkShape2 (show Blk w b 82 #[_, _] from hst.head)
  rcases hp with rfl | rfl
  · go_enter Tryd.func71, Tryd.ntmps71
    go_wp2
    rw [Lib.run_to_unsafe w ⟨b, 0, none⟩ Tryd.underlying80 Tryd.underlying126 hj (by rw [hjs]; decide) hsh (Nat.zero_lt_succ 1)]
    simp only [Result.andThen]
    rw [Oper.upon_value]
    go_wp2
    rw [run_callFunc_extern Tryd.func88 (by kernel_rfl) (by kernel_rfl) (by kernel_rfl) (e := Extern.AbiNoEscape.same) (by kernel_rfl)]
    rw [Lib.run_noEscape]
    simp only [Result.andThen]
    rw [Oper.upon_value]
    go_wp2
    rw [Lib.run_from_unsafe w ⟨b, 0, none⟩ Tryd.underlying126 Tryd.underlying80 hj hsh liesBld]
    simp only [Result.andThen]
    rw [Oper.upon_value]
    go_wp2
    go_returns
    exact Ret.mk (.refl I) (hst.set 0 (.pointer (some ⟨b, 0, none⟩))) ⟨rfl, rfl⟩
  · go_enter Tryd.func71, Tryd.ntmps71
    go_wp2
    rw [Lib.run_neq_ptr_same w _ Tryd.underlying80 hj]
    go_wp2
    go_returns
    exact Ret.mk (.refl I) hst ⟨rfl, rfl⟩
/-- a builder that holds bytes -/
def Bld (B b : Nat) (bs : List UInt8) (M N : List Res) : Prop := ∃ p v, (p = none ∨ p = some (⟨b, 0, none⟩ : Addr)) ∧ (∀ g, v.ownBlock = some g → B ≤ g) ∧ N = bk b 82 #[.pointer p, v] :: row 5 1 v bs.length (bvs bs) :: M
theorem Bld.new {I : Img} {M : List Res} {w : World} (h : St I M w) : ∃ N, St I N (w.alloc (.cells #[.pointer none, .slice none 0 0] 82)) ∧ Bld w.heap.size w.heap.size [] M N :=
  ⟨_, (h.alloc 82 #[.pointer none, .slice none 0 0]).nil.swap1, none, _, .inl rfl, (fun g h => by cases h), rfl⟩
/-- behind a call that keeps all that was there when a state was met -/
theorem St.low {I J : Img} {M : List Res} {w0 w w' : World} (h0 : St I M w0) (hl : J = I) (h : St J M w) (hb : Below w0.heap.size w w') : St J M w' := by
  subst hl
  exact ⟨hb.os.trans h.os, hb.tape.trans h.tape, hb.output.trans h.output, fun k o hk => (hb.block k (Array.getElem?_eq_some_iff.1 (h0.img k o hk)).1).trans (h.img k o hk),
    fun r hr => r.loc w w' (h.res r hr) (fun b hb' => hb.block b (r.lt w0 (h0.res r hr) b hb')), h.apart, h.away⟩
theorem own_up {w : World} {e size n B : Nat} {v : Value} {xs : List Value} (h : w.ownsRow 0 e size v n xs) (hl : ∀ g, v.ownBlock = some g → B ≤ g) : w.ownsRow B e size v n xs := by
  refine ⟨h.1, ?_⟩
  rcases h.2 with h2 | ⟨g, cap, cur, hv, hg, r⟩
  · exact .inl h2
  · exact .inr ⟨g, cap, cur, hv, hl g (by rw [hv]; rfl), r⟩
theorem bvs_cells (l : List UInt8) : bvs l = Lib.byteCells l := rfl
/-- the text of a builder: it is not written on any more -/
theorem stringC (I : Img) (M N : List Res) (w0 w : World) (b : Nat) (bs : List UInt8) (h0 : St I M w0) (hst : St I N w) (hb : Bld w0.heap.size b bs M N) (hB : w0.heap.size ≤ b) :
    Calls Tryd.prog 52 #[.pointer (some ⟨b, 0, none⟩)] w (Ret I (fun v J N' => I = J ∧ v = .string (bsA bs) ∧ N' = M)) := by
  obtain ⟨p, v, hp, hlow, rfl⟩ := hb
  have hbd : Lib.IsBuilder 82 5 w0.heap.size b (Lib.byteCells bs) w := by
    have hown := own_up (show World.ownsRow w 0 5 1 v _ _ from hst.at 1 rfl) hlow
    have hne : v.ownBlock ≠ some b := fun e => (List.pairwise_cons.1 hst.apart).1 _ (List.mem_cons_self ..) b rfl e
    have hlen : (Lib.byteCells bs).length = bs.length := by rw [← bvs_cells, bvs_len]
    have hat : Lib.BuilderAt 82 5 w0.heap.size b (.pointer p) (Lib.byteCells bs) w := ⟨hB, v, hst.head, by rw [hlen]; exact hown, hne⟩
    rcases hp with rfl | rfl
    · exact .inl hat
    · exact .inr hat
  have hbw : w0.heap.size ≤ w.heap.size := by have := Blk.lt (show Blk w b 82 #[_, _] from hst.head); omega
  refine (Tryd.Builder_String_any w0.heap.size b bs w hbd hbw).mono ?_
  rintro e w' ⟨rfl, hbl⟩
  exact Ret.mk (.refl I) (St.low h0 rfl hst.drop.drop hbl) ⟨rfl, rfl, rfl⟩
end Go.Proofs.YtakgdmcekhafoaaDoor
