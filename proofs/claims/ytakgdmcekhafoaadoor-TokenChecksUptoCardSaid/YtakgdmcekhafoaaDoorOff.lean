/- bytes of the call's own that lie behind others in their block: appended to, cut at the front. -/
import Derived.Test.YtakgdmcekhafoaaDoorMo
namespace Go.Proofs.YtakgdmcekhafoaaDoor
open Go.RowKit
set_option linter.unusedSimpArgs false

def offRow (w : World) (e : TypeId) (v : Value) (bs : List UInt8) : Prop :=
  (v = .slice none 0 0 ∧ bs = []) ∨ ∃ (g o c : Nat) (cur : Array Value), v = .slice (some ⟨g, o, none⟩) bs.length c ∧ w.heap[g]? = some (.cells cur e (0, 0)) ∧ bs.length ≤ c ∧ c ≤ maxLen ∧ o + c ≤ cur.size ∧ (cur.toList.drop o).take bs.length = bvs bs
/-- such bytes, as something that is owned -/
def orow (e : TypeId) (v : Value) (bs : List UInt8) : Res where
  blk := v.ownBlock
  ok w := offRow w e v bs
  loc w w' h hb := by
    rcases h with h | ⟨g, o, c, cur, rfl, hg, r⟩
    · exact .inl h
    · exact .inr ⟨g, o, c, cur, rfl, (hb g rfl).trans hg, r⟩
  lt w h b hb := by
    rcases h with ⟨rfl, _⟩ | ⟨g, o, c, cur, rfl, hg, r⟩
    · cases hb
    · injection hb with hb
      subst hb
      exact (Array.getElem?_eq_some_iff.1 hg).1
section
variable {I J : Img} {M : List Res} {w w' : World} {e : TypeId} {v v' : Value} {bs bs' : List UInt8}
theorem St.orow0 (h : St I M w) : St I (orow e (.slice none 0 0) [] :: M) w :=
  St.more (w := w) h (.inl ⟨rfl, rfl⟩) (fun b hb => by cases hb) h
theorem offRow.form (h : offRow w e v bs) : ∃ A c, v = .slice A bs.length c := by
  rcases h with ⟨rfl, rfl⟩ | ⟨g, o, c, cur, rfl, _⟩
  · exact ⟨none, 0, rfl⟩
  · exact ⟨_, c, rfl⟩
theorem offRow.max (h : offRow w e v bs) : bs.length ≤ maxLen := by
  rcases h with ⟨_, rfl⟩ | ⟨g, o, c, cur, _, _, h1, h2, _⟩
  · exact Nat.zero_le _
  · omega
theorem offRow.cells (h : offRow w e v bs) (h0 : 0 < bs.length) : ∃ g o c, v = .slice (some ⟨g, o, none⟩) bs.length c ∧ ∀ j (hj : j < bs.length), w.cell? ⟨g, o + j, none⟩ = some (.int .u8 bs[j].toNat) := by
  rcases h with ⟨_, rfl⟩ | ⟨g, o, c, cur, rfl, hg, h1, h2, h3, h4⟩
  · cases h0
  · refine ⟨g, o, c, rfl, fun j hj => ?_⟩
    rw [World.cell?, hg]
    show (if false = true then none else cur[o + j]?) = _
    rw [if_neg (by decide)]
    have := congrArg (fun l => l[j]?) h4
    simp only [List.getElem?_take, hj, if_true, List.getElem?_drop, Array.getElem?_toList] at this
    rw [this]
    simp [bvs, bv, hj]
/-- behind an append -/
theorem St.ogrown (h : St I (orow e v bs :: M) w) (hg : w.grownBy w' v.ownBlock) (ho : offRow w' e v' bs') (hat : v'.ownBlock = v.ownBlock ∨ v'.ownBlock = some w.heap.size) : St I (orow e v' bs' :: M) w' :=
  h.turn hg.os hg.tape hg.output hg.block ho (fun b hb => by
    rcases hat with h1 | h1
    · exact .inl (h1.symm.trans hb)
    · refine .inr ?_
      have : v'.ownBlock = some b := hb
      rw [h1] at this; injection this with this; omega)
/-- cut at the front -/
theorem offRow.cut {A : Option Addr} {n c : Nat} (h : offRow w e (.slice A n c) bs) {k : Nat} (hk : k ≤ bs.length) : offRow w e (.slice (if c = k then A else A.map (·.add k)) (n - k) (c - k)) (bs.drop k) := by
  rcases h with ⟨hv, rfl⟩ | ⟨g, o, c', cur, hv, hg, h1, h2, h3, h4⟩
  · injection hv with e1 e2 e3
    subst e1 e2 e3
    obtain rfl : k = 0 := by simpa using hk
    exact .inl ⟨rfl, rfl⟩
  · injection hv with e1 e2 e3
    subst e1 e2 e3
    have hl : (bs.drop k).length = bs.length - k := List.length_drop
    have ht : (cur.toList.drop (o + k)).take (bs.length - k) = bvs (bs.drop k) := by
      have h5 : bvs (bs.drop k) = (bvs bs).drop k := by simp [bvs]
      rw [h5, ← h4, List.drop_take, List.drop_drop]
    by_cases hc : c = k
    · rw [if_pos hc]
      refine .inr ⟨g, o, c - k, cur, by rw [hl], hg, by omega, by omega, by omega, ?_⟩
      rw [hl, show bs.length - k = 0 by omega]
      have : bs.drop k = [] := List.drop_eq_nil_of_le (by omega)
      rw [this]
      rfl
    · rw [if_neg hc]
      refine .inr ⟨g, o + k, c - k, cur, by rw [hl]; simp [add_at], hg, by omega, by omega, by omega, ?_⟩
      rw [hl]
      exact ht
theorem St.ocut {A : Option Addr} {n c : Nat} (h : St I (orow e (.slice A n c) bs :: M) w) {k : Nat} (hk : k ≤ bs.length) : St I (orow e (.slice (if c = k then A else A.map (·.add k)) (n - k) (c - k)) (bs.drop k) :: M) w := by
  have ho : offRow w e (.slice A n c) bs := h.head
  refine h.turn rfl rfl rfl (fun _ _ _ => rfl) (ho.cut hk) (fun b hb => .inl ?_)
  have hb' : Value.ownBlock (.slice (if c = k then A else A.map (·.add k)) (n - k) (c - k)) = some b := hb
  show Value.ownBlock (.slice A n c) = some b
  cases A with
  | none => split at hb' <;> cases hb'
  | some a =>
    split at hb'
    · exact hb'
    · have ha : (a.add k).block = a.block := by unfold Addr.add; split <;> rfl
      simpa [Value.ownBlock, ha] using hb'
end
section
variable {P : Program} (w : World)
theorem run_append_off (t tx ty e : TypeId) (i : TypeInfo) (z : Value) (ht : P.underlying t = some (.slice e)) (hi : P.info? e = some i) (hz : i.zero = some z)
    (hsize : i.size = 1) (hby : i.bytes = 1) (hzs : z.cells.size = 1)
    (v : Value) (bs : List UInt8) (hown : offRow w e v bs) (x : Value) (news : List UInt8) (hs : Src P 1 tx x news.length (bvs news) w)
    (hbytes : bs.length + news.length ≤ 140737488355328) :
    ∃ v' w', (Builtin.append_ #[t, tx] ty #[v, x]).run P w = .ok v' w' ∧ offRow w' e v' (bs ++ news) ∧ w.grownBy w' v.ownBlock ∧
      (v'.ownBlock = v.ownBlock ∨ v'.ownBlock = some w.heap.size) := by
  have h63 : bs.length + news.length ≤ maxLen := by unfold maxLen; omega
  have h63' : ((bs.length + news.length : Nat) : Int) ≤ 9223372036854775807 := by omega
  have hs' : Src P i.size tx x news.length (bvs news) w := by rw [hsize]; exact hs
  have hlen : (bs ++ news).length = bs.length + news.length := List.length_append
  have grown : ∀ (old : Nat), ∀ (row : Option Nat),
      offRow (w.drew.alloc (.cells ((bvs bs ++ bvs news).toArray ++ Builtin.zeroCells z.cells (grownCap w (bs.length + news.length) old e - (bs.length + news.length))) e)) e
        (.slice (some ⟨w.heap.size, 0, none⟩) (bs.length + news.length) (grownCap w (bs.length + news.length) old e)) (bs ++ news) ∧
      w.grownBy (w.drew.alloc (.cells ((bvs bs ++ bvs news).toArray ++ Builtin.zeroCells z.cells (grownCap w (bs.length + news.length) old e - (bs.length + news.length))) e)) row := by
    intro old row
    have hge := grownCap_ge w (bs.length + news.length) old e
    have hcm : grownCap w (bs.length + news.length) old e ≤ maxLen := grownCap_le_maxLen w (bs.length + news.length) old e h63
    refine ⟨.inr ⟨w.heap.size, 0, _, _, by rw [hlen], heap_alloc_new w.drew _, by rw [hlen]; exact hge, hcm, ?_, ?_⟩, ⟨rfl, rfl, rfl, by simp, fun k hk _ => Below.heap_alloc w.drew _ k hk⟩⟩
    · simp only [Array.size_append, List.size_toArray, size_zeroCells, hzs, List.length_append, bvs_len]
      omega
    · rw [List.drop_zero, bvs_append]
      simp only [Array.toList_append]
      have : (bs ++ news).length = (bvs bs ++ bvs news).length := by simp [bvs_len]
      rw [this]
      exact List.take_left
  rcases hown with ⟨rfl, rfl⟩ | ⟨g, o, cap, cur, rfl, hg, hnc, hcm, hcs, htake⟩
  · by_cases hm : news.length = 0
    · have hn : news = [] := List.eq_nil_of_length_eq_zero hm
      subst hn
      refine ⟨.slice none 0 0, w, ?_, .inl ⟨rfl, rfl⟩, ⟨rfl, rfl, rfl, Nat.le_refl _, fun _ _ _ => rfl⟩, Or.inl rfl⟩
      have hl0 := hs'.len
      have hc0 := hs'.cells
      simp only [List.length_nil] at hl0 hc0
      rcases hs'.kind with ⟨e', hk⟩ | hk <;> simp [Builtin.append_, run_underlying ht, run_underlying hk, sizeOf, typeInfo, hi, hl0, hc0, bvs]
    · have hr := run_append_grow_src (P := P) w t tx ty e i z ht hi hz none 0 0 [] (run_firstCells_none w.drew i.size 0 0 0) x news.length (bvs news) hs' (by omega) (by simpa using h63') (growslice_fits (by omega) (by rw [hby]; simpa using hbytes))
      have hgr := grown 0 (Value.ownBlock (.slice none 0 0))
      simp only [Nat.zero_add, List.length_nil, List.nil_append, bvs, List.map_nil] at hgr hr ⊢
      exact ⟨_, _, hr, hgr.1, hgr.2, Or.inr rfl⟩
  · by_cases hroom : bs.length + news.length ≤ cap
    · have hfit : o + bs.length + news.length ≤ cur.size := by omega
      have hst := run_storeCells_at P g (o + bs.length) e (bvs news) 0 cur w hg (by rw [bvs_len]; simpa using hfit) (bvs_one news)
      simp only [Nat.add_zero] at hst
      have hr : (Builtin.append_ #[t, tx] ty #[.slice (some ⟨g, o, none⟩) bs.length cap, x]).run P w =
          .ok (.slice (some ⟨g, o, none⟩) (bs.length + news.length) cap) (w.setRow g (cur.toList.take (o + bs.length) ++ bvs news ++ cur.toList.drop (o + bs.length + (bvs news).length)).toArray) := by
        rcases hs'.kind with ⟨e', hk⟩ | hk <;> simp [Builtin.append_, run_underlying ht, run_underlying hk, sizeOf, typeInfo, hi, hs.len, hroom, hs.cells, add_at, hsize, hst]
      refine ⟨_, _, hr, .inr ⟨g, o, cap, _, by rw [hlen], setRow_heap w g cur _ e _ hg, by rw [hlen]; exact hroom, hcm, ?_, ?_⟩, ⟨rfl, rfl, rfl, by simp, fun k hk hk2 => setRow_other w g k _ (fun e => hk2 (by simp [Value.ownBlock, e]))⟩, Or.inl rfl⟩
      · simp only [List.size_toArray, List.length_append, List.length_take, List.length_drop, Array.length_toList, bvs_len]
        omega
      · have hcl : cur.toList.length = cur.size := Array.length_toList ..
        rw [hlen, List.append_assoc, List.drop_append, List.length_take, hcl, Nat.min_eq_left (by omega), show o - (o + bs.length) = 0 by omega, List.drop_zero, List.drop_take, show o + bs.length - o = bs.length by omega, htake]
        rw [← List.append_assoc, bvs_append]
        have : bs.length + news.length = (bvs bs ++ bvs news).length := by simp [bvs_len]
        rw [this]
        exact List.take_left
    · have holds : ∀ j u, (bvs bs)[j]? = some u → w.drew.cell? ((⟨g, o, none⟩ : Addr).add j) = some u := fun j u hu => by
        rw [add_at, World.cell?]
        show (match w.heap[g]? with | some (.cells cs _ _) => if false = true then none else cs[o + j]? | _ => none) = _
        rw [hg]
        show (if false = true then none else cur[o + j]?) = _
        rw [if_neg (by decide)]
        have hj : j < bs.length := by
          have := (List.getElem?_eq_some_iff.1 hu).1
          rwa [bvs_len] at this
        have := congrArg (fun l => l[j]?) htake
        simp only [List.getElem?_take, hj, if_true, List.getElem?_drop, Array.getElem?_toList] at this
        rw [this]
        exact hu
      have hr := run_append_grow_src (P := P) w t tx ty e i z ht hi hz (some ⟨g, o, none⟩) bs.length cap (bvs bs) (run_firstCells_some w.drew i.size bs.length _ bs.length cap (bvs bs) (by rw [bvs_len, hsize, Nat.mul_one]) holds) x news.length (bvs news) hs' (by omega) h63' (growslice_fits (by omega) (by rw [hby]; simpa using hbytes))
      have hgr := grown cap (Value.ownBlock (.slice (some ⟨g, o, none⟩) bs.length cap))
      exact ⟨_, _, hr, hgr.1, hgr.2, Or.inr rfl⟩
/-- at a plain region's list: behind 'at_builtin' -/
theorem wpList_append_off {ops : Array Oper} {rest : List Oper} {o : Oper} {a : Act} {Q : Exit → Act → World → Prop} (hgd : o.guard = none) (s y : Operand) (t tx : TypeId)
    (ho : o.op = .call { callee := .builtin .append, args := #[s, y], argTypes := #[t, tx] })
    (e : Nat) (i : TypeInfo) (z : Value) (ht : P.underlying t = some (.slice e)) (hi : P.info? e = some i) (hz : i.zero = some z)
    (hsize : i.size = 1) (hby : i.bytes = 1) (hzs : z.cells.size = 1)
    (v : Value) (bs : List UInt8) (hv : a.eval s = v) (hown : offRow w e v bs) (x : Value) (news : List UInt8) (hx : a.eval y = x) (hs : Src P 1 tx x news.length (bvs news) w)
    (hbytes : bs.length + news.length ≤ 140737488355328)
    (h : ∀ v' w', offRow w' e v' (bs ++ news) → w.grownBy w' v.ownBlock → (v'.ownBlock = v.ownBlock ∨ v'.ownBlock = some w.heap.size) → wpList P ops Q rest (a.put o.dst v') w') : wpList P ops Q (o :: rest) a w := by
  refine wpList_plain hgd fun K hK => ?_
  obtain ⟨v', w', hr, h2, h3, h4⟩ := run_append_off (P := P) w t tx o.type e i z ht hi hz hsize hby hzs v bs hown x news hs hbytes
  unfold Oper.wp execOp
  simp only [ho, resolve, invoke, builtin, Sem.run_bind, Sem.run_pure, Result.andThen_ok, List.map_toArray, List.map_cons, List.map_nil, hv, hx, hr]
  exact hK _ _ (h v' w' h2 h3 h4)
end
end Go.Proofs.YtakgdmcekhafoaaDoor
