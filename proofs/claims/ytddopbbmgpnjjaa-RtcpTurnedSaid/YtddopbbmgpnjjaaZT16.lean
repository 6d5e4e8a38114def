/- part. -/
import Derived.Test.YtddopbbmgpnjjaaZT15
import Derived.SizedLaws
import Derived.ProofKit
import Derived.OpenShut
import Derived.ShutString
import Derived.ChangeOld
import Derived.Below
import Derived.Lib.SmallJoins
import Derived.Deep.Slices
namespace Go.Proofs.Ytddopbbmgpnjjaa
set_option linter.unusedSimpArgs false
open Go.RowKit
section
variable {P : Program} {ops : Array Oper} {Q : Exit -> Act -> World -> Prop} {md : Region.Mode} {S : World -> Prop}
def hangs (md : Region.Mode) (ops : Array Oper) (i j : Nat) : Bool := match ops[i]? with
 | some o => o.after.toList.any fun e => Region.binds md e && e.on == j
 | none => false
theorem anyH_inv {a0 : Act} {L : Array Bool} {fuel : Nat} {w0 : World} (is : List Nat) (dl : List Nat) (dst : Nat -> Nat) (Inv : List Nat -> (Nat -> Value) -> World -> Prop)
  (hok : setOk md ops L is = true) (hni : is.Nodup) (hdl : ∀ i ∈ is, dst i ∈ dl)
  (hmem : ∀ d d' x w, (∀ i, i ∈ d ↔ i ∈ d') -> Inv d x w -> Inv d' x w) (hS : ∀ d x w, Inv d x w -> S w)
  (h0 : Inv [] (fun d => a0.tmps.getD d undef) w0)
  (hstep : ∀ i ∈ is, ∀ (d : List Nat) (x : Nat -> Value) (w : World), i ∉ d -> (∀ j ∈ d, j ∈ is) -> (∀ j ∈ is, hangs md ops i j = true -> j ∈ d) -> Inv d x w ->
   ∀ K : Act -> World -> Prop, Hid (∀ v w', Inv (i :: d) (upd x (dst i) v) w' -> K ((Act.over a0 dl x).put (some (dst i)) v) w') -> wpOp P ops Q i K (Act.over a0 dl x) w)
  (hend : ∀ (x : Nat -> Value) w, Inv is x w -> wpAnyH P md ops Q S fuel (Zm (fun _ => true) is L) (Act.over a0 dl x) w) :
  wpAnyH P md ops Q S (fuel + is.length) L a0 w0 := by
 have hun : ∀ k ∈ is, L.getD k true = false := by
  have h := hok
  unfold setOk at h
  rw [Bool.and_eq_true] at h
  exact setChk_un is [] h.1
 have key : ∀ (n : Nat) (rem done : List Nat), rem.length = n -> (done ++ rem).Perm is -> ∀ (x : Nat -> Value) w, Inv done x w ->
   wpAnyH P md ops Q S (fuel + n) (Zm (fun _ => true) done L) (Act.over a0 dl x) w := by
  intro n
  induction n with
  | zero =>
   intro rem done hl hp x w hI
   have : rem = [] := List.length_eq_zero_iff.1 hl
   subst this
   rw [List.append_nil] at hp
   have e : Zm (fun _ => true) done L = Zm (fun _ => true) is L := setAll_ext (fun j => hp.mem_iff) (fun _ _ => rfl)
   rw [e]
   exact hend x w (hmem _ _ x w (fun _ => hp.mem_iff) hI)
  | succ n ih =>
   intro rem done hl hp x w hI
   have hmm : ∀ c, c ∈ is ↔ c ∈ done \/ c ∈ rem := fun c => by rw [<- hp.mem_iff, List.mem_append]
   have hnp : (done ++ rem).Nodup := hp.nodup_iff.2 hni
   obtain ⟨c0, r0, hr0⟩ : ∃ c r, rem = c :: r := by
    cases rem with
    | nil => cases hl
    | cons c r => exact ⟨c, r, rfl⟩
   have hc0 : c0 ∉ done := by
    intro h
    rw [hr0, List.nodup_append] at hnp
    exact hnp.2.2 _ h _ (by simp) rfl
   have hsub : ∀ i ∈ done, i ∈ is := fun i hi => (hmm i).2 (.inl hi)
   obtain ⟨hk, hj⟩ := set_ready hok hsub (k := c0) ((hmm c0).2 (.inr (by rw [hr0]; exact List.mem_cons_self ..))) hc0
   refine ⟨fun h => (by obtain ⟨m, hm⟩ := hk; rw [h] at hm; cases hm), fun j hjr => ?_⟩
   obtain ⟨hji, hjd⟩ := hj j hjr
   have hcr : j ∈ rem := ((hmm j).1 hji).resolve_left hjd
   obtain ⟨r1, r2, hr⟩ := List.append_of_mem hcr
   subst hr
   have hp2 : ((j :: done) ++ (r1 ++ r2)).Perm is := by
    refine List.Perm.trans ?_ hp
    have h1 : (done ++ (r1 ++ j :: r2)).Perm (done ++ (j :: (r1 ++ r2))) := List.Perm.append_left done List.perm_middle
    exact (List.perm_middle.symm).trans h1.symm
   refine hstep j hji done x w hjd hsub (fun m hm hh => ?_) hI _ (VL fun v w' hI' => ?_)
   ·obtain ⟨_, o, ho, hall⟩ := mem_ready.1 hjr
    unfold hangs at hh
    rw [ho] at hh
    simp only [List.any_eq_true, Bool.and_eq_true, beq_iff_eq] at hh
    obtain ⟨e, he, hb, heq⟩ := hh
    have h6 := hall e (by simpa using he) hb
    apply Classical.byContradiction
    intro hnd
    rw [heq, WW hnd, unlisted (hun m hm)] at h6
    cases h6
   refine ⟨hS _ _ _ hI', ?_⟩
   rw [over_put (hdl j hji)]
   have e : (Zm (fun _ => true) done L).setIfInBounds j true = Zm (fun _ => true) (j :: done) L := by
    have e1 : (Zm (fun _ => true) done L).setIfInBounds j true = Zm (fun _ => true) (done ++ [j]) L := by
     unfold Zm
     rw [List.foldl_append]
     rfl
    rw [e1]
    exact setAll_ext (fun k => by simp [or_comm]) (fun _ _ => rfl)
   rw [e]
   exact ih (r1 ++ r2) (j :: done) (by simp at hl ⊢; omega) hp2 (upd x (dst j) v) w' hI'
 have := key is.length is [] rfl (by simp) (fun d => a0.tmps.getD d undef) w0 h0
 rw [<- over_self] at this
 exact this
end
theorem St.mid {I : Zh} {M1 M2 : List Zt} {r : Zt} {w : World} (h : St I (r :: (M1 ++ M2)) w) : St I (M1 ++ (r :: M2)) w := h.perm (List.perm_middle.symm)
section
variable {P : Program} {ops : Array Oper} {Q : Exit -> Act -> World -> Prop}
end
theorem info43 : (Try.prog.info? 43).map (fun i => (i.zero, i.size, i.bytes)) = some (some (.int .u32 0), 1, 4) := by kernel_rfl
theorem info3 : (Try.prog.info? 3).map (fun i => (i.zero, i.size, i.bytes)) = some (some (.int .i64 0), 1, 8) := by kernel_rfl
theorem info65 : (Try.prog.info? 65).map (fun i => (i.zero, i.size, i.bytes)) = some (some (.agg #[.int .u32 0, .int .u8 0, .int .u32 0, .int .u32 0, .int .u32 0, .int .u32 0, .int .u32 0]), 7, 28) := by kernel_rfl
theorem info68 : (Try.prog.info? 68).map (fun i => (i.zero, i.size, i.bytes)) = some (some (.agg #[.int .u32 0, .int .u8 0]), 2, 8) := by kernel_rfl
def Z51 : Array Value := #[.int .i64 0, .int .u32 0, .int .u32 0, .int .u64 0, .int .u32 0, .int .u32 0, .int .u32 0, .slice none 0 0, .string ⟨#[]⟩, .slice none 0 0, .slice none 0 0, .int .u16 0, .int .u32 0, .int .u8 0, .slice none 0 0, .slice none 0 0]
theorem info51 : (Try.prog.info? 51).map (fun i => (i.zero, i.size, i.bytes)) = some (some (.agg Z51), 16, 192) := by kernel_rfl
open Go.ChangeShapes Go.WideShapes Go.ChangeAt Go.RowKit
theorem trodAll_stays {H : Type} {enc : TypeId × Value -> H} {P : Program} (hl : laidOutB P = true) {W W' : World} (hb : Below W.heap.size W W') :
  ∀ (ts : List TypeId) (_ : ∀ t ∈ ts, P.readableRec t = true /\ t < P.types.size) (vs : List Value) (ds : List (DataW H)) (ps : List MemPlace), DataW.TrodAll enc P W 0 (fun _ => true) true ts vs ds ps -> (∀ x ∈ ps, x.block < W.heap.size) ->
   DataW.TrodAll enc P W' 0 (fun b => decide (b < W.heap.size)) true ts vs ds ps
 | [], _, vs, ds, ps, h, _ => by
  obtain ⟨rfl, rfl, rfl⟩ := trodAll_nil h
  exact trodAll_mk0
 | t :: ts, ht, vs, ds, ps, h, Z0 => by
  obtain ⟨v, vs', d, ds', p, q, rfl, rfl, rfl, h0, r0⟩ := trodAll_cons h
  exact trodAll_cons_mk (Below.trod hl (ht t (by simp)).1 (ht t (by simp)).2 h0 hb (fun x hx => Z0 x (by simp [hx])))
   (trodAll_stays hl hb ts (fun u hu => ht u (by simp [hu])) vs' ds' q r0 (fun x hx => Z0 x (by simp [hx])))
theorem law_post {H : Type} {enc : TypeId × Value -> H} {P : Program} {f : Func} {s : ChangeSpec} {W W' : World} {args : Array Value} {ds gs : List (DataW H)} {before : List MemPlace} {bt : TypeId}
  (hl : laidOutB P = true) (hp : ∀ t ∈ f.params.toList, P.readableRec t = true /\ t < P.types.size) (hr : f.resultTypes = #[bt]) (Wo : P.underlying bt = some .bool) (hv : s.vars = [])
  (hres : (s.fn H (ds ++ gs)).results = [.lit (.bool true)]) (hargs : (s.fn H (ds ++ gs)).args = ds) (hvars : (s.fn H (ds ++ gs)).vars = [])
  (hW : DataW.Whole enc P f.params.toList s.vars false W args.toList ds gs before) (hb : Below W.heap.size W W') :
  s.post enc P f false true false false W args (.bool true) W' := by
 have Z0 : ∀ p ∈ before, p.block < W.heap.size := fun p hp => hW.lt p hp
 have hW' := hW
 obtain ⟨p, q, hA, hV, rfl, _, _⟩ := hW
 rw [hv] at hV
 obtain ⟨rfl, rfl⟩ := trodVars_none hV
 refine ⟨ds, [], p ++ [], [], p, [], hW', ?_, ?_, ?_, World.keptBut_mono (fun x hx => ⟨hx, .inr (.inl (by simpa using hx))⟩) (hb.frame (· ∈ p ++ [])), fun h => by cases h⟩
 ·rw [hres, hr]
  exact trodAll_mk1 (shut_bool Wo _)
 ·rw [hargs]
  exact trodAll_stays hl hb _ hp _ _ _ hA (fun x hx => Z0 x (by simp [hx]))
 rw [hv, hvars]
 exact rfl
open Go.ChangeShapes Go.WideShapes Go.ChangeAt Go.RowKit Go.Joins Go.Deep
def Fits {H : Type} (P : Program) (t : TypeId) (d : DataW H) : Prop := (d.weights P t).all (· <= reachBytes) = true
theorem ZT {H : Type} {P : Program} {t : TypeId} {ts : List TypeId} {d : DataW H} {ds : List (DataW H)} (h : (DataW.weightsEach P (t :: ts) (d :: ds)).all (· <= reachBytes) = true) : Fits P t d /\ (DataW.weightsEach P ts ds).all (· <= reachBytes) = true := by
 simpa [DataW.weightsEach, Fits] using h
theorem fits_agg {H : Type} {P : Program} {t : TypeId} {fs : Array Field} {ps : List (DataW H)} (ht : P.underlying t = some (.struct fs)) (h : Fits P t (.agg ps)) : (DataW.weightsEach P (fs.toList.map (·.type)) ps).all (· <= reachBytes) = true := by
 simpa [Fits, DataW.weights, ht] using h
theorem fits_slice {H : Type} {P : Program} {t e : TypeId} {xs ys : List (DataW H)} (ht : P.underlying t = some (.slice e)) (h : Fits P t (.slice xs ys)) : (xs.length + ys.length) * P.bytesOf e <= reachBytes /\ ∀ d ∈ xs, Fits P e d := by
 simp only [Fits, DataW.weights, ht, List.all_cons, Bool.and_eq_true, decide_eq_true_eq, List.all_append] at h
 refine ⟨h.1, fun d hd => ?_⟩
 have h2 := h.2.1
 clear h
 induction xs with
 | nil => cases hd
 | cons x r ih =>
  simp only [DataW.weightsAll, List.all_append, Bool.and_eq_true] at h2
  rcases List.mem_cons.1 hd with rfl | hd
  ·exact h2.1
  exact ih hd h2.2
theorem byte_of {z : Int} (h : (Lit.int .u8 z).wf = true) : ((UInt8.ofNat z.toNat).toNat : Int) = z := by
 have hb : 0 <= z /\ z <= 255 := by simpa [Lit.wf, IntKind.min, IntKind.max, IntKind.signed, IntKind.bits] using h
 rw [UInt8.toNat_ofNat', Nat.mod_eq_of_lt (by simp; omega)]
 omega
section
variable {H : Type} {enc : TypeId × Value -> H} {P : Program} {w : World} {base : Nat} {spare : Nat -> Bool} {held : Bool}
theorem open_byts {t e : TypeId} {fuel : Nat} {cs : List Value} {x : DataW H × List MemPlace} (ht : P.underlying t = some (.slice e)) (he : P.underlying e = some (.int .u8)) (hc : P.cellsOf e = 1) (hy : P.bytesOf e = 1)
  (h : DataW.trod enc P w base spare held fuel t cs = some x) :
  ∃ (A : Option Addr) (c : Nat) (bs : List UInt8), cs = [.slice A bs.length c] /\ Zq (Zh.of w) A bs /\ bs.length <= c /\ (Fits P t x.1 -> bs.length <= 140737488351232) := by
 rcases open_ints ht he hc h with ⟨rfl, rfl⟩ | ⟨a, len, cap, zs, rfl, _, hl, _, hz, rfl, ZK, hwf⟩
 ·exact ⟨none, 0, [], rfl, Zq.nil _ _, Nat.le_refl _, fun _ => Nat.zero_le _⟩
 have hzl : len <= zs.length := by rw [hz]; split <;> omega
 have hlen : ((zs.take len).map fun z => UInt8.ofNat z.toNat).length = len := by rw [List.length_map, List.length_take]; omega
 refine ⟨some a, cap, (zs.take len).map fun z => UInt8.ofNat z.toNat, by rw [hlen], ?_, by rw [hlen]; exact hl, fun hf => ?_⟩
 ·intro h0
  rw [Xb, hlen] at h0
  have h00 := ZK 0 (by omega)
  have hsp : a.spot = none := by simpa [Addr.add] using World.cell?_spot h00
  obtain ⟨g, o, spot⟩ := a
  simp only at hsp
  subst hsp
  refine ⟨g, o, rfl, fun j hj => ?_⟩
  rw [Zh.of_cell]
  have hj' : j < zs.length := by rw [Xb, hlen] at hj; omega
  have hcj := ZK j hj'
  rw [Wq] at hcj
  rw [hcj]
  have e1 : zs.getD j 0 = zs[j] := by simp [hj']
  rw [e1]
  simp only [Z6, bv, List.getElem_map, List.getElem_take]
  rw [byte_of (hwf _ (List.getElem_mem hj'))]
 have := (fits_slice ht hf).1
 rw [hy] at this
 simp only [lits, List.length_map, List.length_take, List.length_drop, reachBytes] at this
 rw [hlen]
 omega
end
def VG {α : Type} (I : Zh) (size : Nat) (El : Zh -> List Value -> α -> Prop) (A : Option Addr) (ys : List α) : Prop :=
 0 < ys.length -> ∃ g o, A = some ⟨g, o, none⟩ /\ ∀ i (h : i < ys.length), ∃ cs, El I cs ys[i] /\ cs.length = size /\ ∀ j (h : j < cs.length), I.cell? ⟨g, o + i * size + j, none⟩ = some cs[j]
section
variable {H : Type} {enc : TypeId × Value -> H} {P : Program} {w : World} {base : Nat} {held : Bool}
theorem WX {α : Type} {t e size by_ : Nat} {El : Zh -> List Value -> α -> Prop} (ht : P.underlying t = some (.slice e)) (ZK : P.cellsOf e = size) (hby : P.bytesOf e = by_) (h0 : 0 < size) (h1 : 0 < by_)
  (hel : ∀ (fuel : Nat) (cs : List Value) (x : DataW H × List MemPlace), DataW.trod enc P w base (fun _ => true) held fuel e cs = some x -> Fits P e x.1 -> ∃ y, El (Zh.of w) cs y)
  {fuel : Nat} {cs : List Value} {x : DataW H × List MemPlace} (h : DataW.trod enc P w base (fun _ => true) held fuel t cs = some x) (hF : Fits P t x.1) :
  ∃ (A : Option Addr) (c : Nat) (ys : List α), cs = [.slice A ys.length c] /\ VG (Zh.of w) size El A ys /\ ys.length * by_ <= 140737488351232 /\ ys.length <= 140737488351232 /\ ys.length <= c := by
 rcases open_slice ht h with ⟨rfl, rfl⟩ | ⟨a, len, cap, m, n, D, Pl, rfl, _, hlc, _, hm, rfl, hi⟩
 ·exact ⟨none, 0, [], rfl, fun h0 => absurd h0 (by simp), by simp, Nat.zero_le _, Nat.le_refl _⟩
 simp only [if_true] at hm
 obtain ⟨hsz, hfe⟩ := fits_slice ht hF
 rw [hby] at hsz
 simp only [List.length_map, List.length_range, reachBytes] at hsz
 have hex : ∀ i : Fin len, ∃ y : α, ∃ cs' g o, a = ⟨g, o, none⟩ /\ El (Zh.of w) cs' y /\ cs'.length = size /\ ∀ j (h : j < cs'.length), (Zh.of w).cell? ⟨g, o + i.1 * size + j, none⟩ = some cs'[j] := by
  intro i
  obtain ⟨cs', hc, ht'⟩ := hi i.1 (by omega)
  obtain ⟨y, hy⟩ := hel _ _ _ ht' (hfe _ (List.mem_map.2 ⟨i.1, List.mem_range.2 i.2, rfl⟩))
  obtain ⟨_, hcl, hat⟩ := World.cells?_some hc
  rw [ZK] at hat hcl
  have hsp : a.spot = none := by
   obtain ⟨cs0, hc0, ht0⟩ := hi 0 (by have := i.2; omega)
   obtain ⟨_, hcl0, hat0⟩ := World.cells?_some hc0
   rw [ZK] at hat0 hcl0
   have := hat0 0 (by omega)
   rw [List.getElem?_eq_getElem (by omega)] at this
   simp only [Nat.zero_mul, Addr.add, if_true] at this
   exact World.cell?_spot this
  obtain ⟨g, o, spot⟩ := a
  simp only at hsp
  subst hsp
  refine ⟨y, cs', g, o, rfl, hy, hcl, fun j hj => ?_⟩
  have := hat j (by omega)
  rw [Wq, Wq, List.getElem?_eq_getElem hj] at this
  rw [Zh.of_cell]; exact this
 have hlen : len * by_ <= 140737488351232 := by
  have : len * by_ <= (len + (m - len)) * by_ := Nat.mul_le_mul_right _ (by omega)
  omega
 refine ⟨some a, cap, List.ofFn fun i : Fin len => Classical.choose (hex i), by rw [List.length_ofFn], ?_, by rw [List.length_ofFn]; exact hlen, by rw [List.length_ofFn]; exact Nat.le_trans (Nat.le_mul_of_pos_right _ h1) hlen, by rw [List.length_ofFn]; omega⟩
 intro h0
 rw [List.length_ofFn] at h0
 obtain ⟨_, g, o, e, _⟩ := Classical.choose_spec (hex ⟨0, h0⟩)
 refine ⟨g, o, by rw [e], fun i hi' => ?_⟩
 rw [List.length_ofFn] at hi'
 obtain ⟨cs', g', o', e', hop⟩ := Classical.choose_spec (hex ⟨i, hi'⟩)
 rw [e] at e'
 injection e' with e1 e2
 subst e1 e2
 rw [List.getElem_ofFn]
 exact ⟨cs', hop⟩
end
theorem flatOf {α : Type} {I : Zh} {s : Nat} {El : Zh -> List Value -> α -> Prop} {f : α -> List Value} {A : Option Addr} {ys : List α} (h : VG I s El A ys) (hf : ∀ cs y, El I cs y -> cs = f y) (hs : ∀ x, (f x).length = s) (h0 : 0 < s) : Cells I A (flat f ys) := by
 intro hl
 have hfl := XK hs ys
 have hy : 0 < ys.length := by
  rcases Nat.eq_zero_or_pos ys.length with e | e
  ·rw [hfl, e] at hl; omega
  exact e
 obtain ⟨g, o, e, hc⟩ := h hy
 refine ⟨g, o, e, fun j hj => ?_⟩
 have hd : j / s * s + j % s = j := by have := Nat.div_add_mod j s; rw [Nat.mul_comm] at this; exact this
 have hi : j / s < ys.length := by rw [hfl] at hj; exact Nat.div_lt_of_lt_mul (by rw [Nat.mul_comm]; exact hj)
 have hr : j % s < s := Nat.mod_lt _ h0
 obtain ⟨cs, hel, hcl, hat⟩ := hc (j / s) hi
 have hcf := hf _ _ hel
 subst hcf
 have h1 := hat (j % s) (by rw [hs]; exact hr)
 have h2 := flat_at hs ys (j / s) (j % s) hi hr
 rw [Nat.add_assoc, hd] at h1
 rw [hd, List.getElem?_eq_getElem hj, List.getElem?_eq_getElem (by rw [hs]; exact hr)] at h2
 rw [h1]
 exact h2.symm
theorem elOf {α : Type} {I : Zh} {s : Nat} {El : Zh -> List Value -> α -> Prop} {A : Option Addr} {ys : List α} (h : VG I s El A ys) : ∀ y ∈ ys, ∃ cs, El I cs y := by
 intro y hy
 obtain ⟨i, hi, rfl⟩ := List.getElem_of_mem hy
 obtain ⟨g, o, e, hc⟩ := h (by omega)
 obtain ⟨cs, hel, _⟩ := hc i hi
 exact ⟨cs, hel⟩
def ElN (k : IntKind) (_ : Zh) (cs : List Value) (x : Int) : Prop := cs = [.int k x] /\ (Lit.int k x).wf = true
def ElR (_ : Zh) (cs : List Value) (x : Rp) : Prop := cs = Yt x /\ ((Lit.int .u32 x.src).wf = true /\ (Lit.int .u8 x.lost).wf = true /\ (Lit.int .u32 x.total).wf = true /\ (Lit.int .u32 x.high).wf = true /\ (Lit.int .u32 x.Xw).wf = true /\ (Lit.int .u32 x.last).wf = true /\ (Lit.int .u32 x.delay).wf = true)
def ElW (_ : Zh) (cs : List Value) (x : Wn) : Prop := cs = WO x /\ ((Lit.int .u32 x.src).wf = true /\ (Lit.int .u8 x.seq).wf = true)
theorem wf32 {x : Int} (h : (Lit.int .u32 x).wf = true) : 0 <= x /\ x <= 4294967295 := by simpa [Lit.wf, IntKind.min, IntKind.max, IntKind.signed, IntKind.bits] using h
theorem wf16 {x : Int} (h : (Lit.int .u16 x).wf = true) : 0 <= x /\ x <= 65535 := by simpa [Lit.wf, IntKind.min, IntKind.max, IntKind.signed, IntKind.bits] using h
theorem wf8 {x : Int} (h : (Lit.int .u8 x).wf = true) : 0 <= x /\ x <= 255 := by simpa [Lit.wf, IntKind.min, IntKind.max, IntKind.signed, IntKind.bits] using h
theorem wf64 {x : Int} (h : (Lit.int .u64 x).wf = true) : 0 <= x /\ x <= 18446744073709551615 := by simpa [Lit.wf, IntKind.min, IntKind.max, IntKind.signed, IntKind.bits] using h
theorem cellsOf64 : Try.prog.cellsOf 64 = 7 := by kernel_rfl
set_option maxRecDepth 8000 in
theorem open_rp0 {H : Type} {enc : TypeId × Value -> H} {w : World} {base : Nat} {spare : Nat -> Bool} {held : Bool} {fuel : Nat} {cs : List Value} {x : DataW H × List MemPlace} (h : DataW.trod enc Try.prog w base spare held fuel 64 cs = some x) (hF : Fits Try.prog 64 x.1) :
  ∃ (a : Int) (b : Int) (c : Int) (d : Int) (e : Int) (f : Int) (g : Int), cs = [.int .u32 a, .int .u8 b, .int .u32 c, .int .u32 d, .int .u32 e, .int .u32 f, .int .u32 g] /\ (Lit.int .u32 a).wf = true /\ (Lit.int .u8 b).wf = true /\ (Lit.int .u32 c).wf = true /\ (Lit.int .u32 d).wf = true /\ (Lit.int .u32 e).wf = true /\ (Lit.int .u32 f).wf = true /\ (Lit.int .u32 g).wf = true := by
 obtain ⟨xs, n, _, rfl, hl, hlen, hf⟩ := DataW.trod_struct Try.underlying64 h
 rw [cellsOf64] at hl
 match cs, hl, xs, hlen with
 | [c0, c1, c2, c3, c4, c5, c6], _, [y0, y1, y2, y3, y4, y5, y6], _ =>
  have h0 : DataW.trod enc Try.prog w base spare held n 43 (([c0, c1, c2, c3, c4, c5, c6].drop 0).take (Try.prog.cellsOf 43)) = some y0 := hf 0 _ rfl
  have h1 : DataW.trod enc Try.prog w base spare held n 5 (([c0, c1, c2, c3, c4, c5, c6].drop 1).take (Try.prog.cellsOf 5)) = some y1 := hf 1 _ rfl
  have h2 : DataW.trod enc Try.prog w base spare held n 43 (([c0, c1, c2, c3, c4, c5, c6].drop 2).take (Try.prog.cellsOf 43)) = some y2 := hf 2 _ rfl
  have h3 : DataW.trod enc Try.prog w base spare held n 43 (([c0, c1, c2, c3, c4, c5, c6].drop 3).take (Try.prog.cellsOf 43)) = some y3 := hf 3 _ rfl
  have h4 : DataW.trod enc Try.prog w base spare held n 43 (([c0, c1, c2, c3, c4, c5, c6].drop 4).take (Try.prog.cellsOf 43)) = some y4 := hf 4 _ rfl
  have h5 : DataW.trod enc Try.prog w base spare held n 43 (([c0, c1, c2, c3, c4, c5, c6].drop 5).take (Try.prog.cellsOf 43)) = some y5 := hf 5 _ rfl
  have h6 : DataW.trod enc Try.prog w base spare held n 43 (([c0, c1, c2, c3, c4, c5, c6].drop 6).take (Try.prog.cellsOf 43)) = some y6 := hf 6 _ rfl
  rw [show Try.prog.cellsOf 43 = 1 from by kernel_rfl] at h0
  rw [show Try.prog.cellsOf 5 = 1 from by kernel_rfl] at h1
  rw [show Try.prog.cellsOf 43 = 1 from by kernel_rfl] at h2
  rw [show Try.prog.cellsOf 43 = 1 from by kernel_rfl] at h3
  rw [show Try.prog.cellsOf 43 = 1 from by kernel_rfl] at h4
  rw [show Try.prog.cellsOf 43 = 1 from by kernel_rfl] at h5
  rw [show Try.prog.cellsOf 43 = 1 from by kernel_rfl] at h6
  have hfa := fits_agg Try.underlying64 hF
  obtain ⟨a, e0, _, k0⟩ := DataW.trod_int Try.underlying43 h0
  obtain ⟨b, e1, _, k1⟩ := DataW.trod_int Try.underlying5 h1
  obtain ⟨c, e2, _, k2⟩ := DataW.trod_int Try.underlying43 h2
  obtain ⟨d, e3, _, k3⟩ := DataW.trod_int Try.underlying43 h3
  obtain ⟨e, e4, _, k4⟩ := DataW.trod_int Try.underlying43 h4
  obtain ⟨f, e5, _, k5⟩ := DataW.trod_int Try.underlying43 h5
  obtain ⟨g, e6, _, k6⟩ := DataW.trod_int Try.underlying43 h6
  simp only [List.drop_zero, List.drop_succ_cons, List.take_succ_cons, List.take_zero, List.cons.injEq, and_true] at e0 e1 e2 e3 e4 e5 e6
  subst e0 e1 e2 e3 e4 e5 e6
  exact ⟨a, b, c, d, e, f, g, rfl, k0, k1, k2, k3, k4, k5, k6⟩
theorem cellsOf67 : Try.prog.cellsOf 67 = 2 := by kernel_rfl
set_option maxRecDepth 8000 in
theorem open_wn0 {H : Type} {enc : TypeId × Value -> H} {w : World} {base : Nat} {spare : Nat -> Bool} {held : Bool} {fuel : Nat} {cs : List Value} {x : DataW H × List MemPlace} (h : DataW.trod enc Try.prog w base spare held fuel 67 cs = some x) (hF : Fits Try.prog 67 x.1) :
  ∃ (a : Int) (b : Int), cs = [.int .u32 a, .int .u8 b] /\ (Lit.int .u32 a).wf = true /\ (Lit.int .u8 b).wf = true := by
 obtain ⟨xs, n, _, rfl, hl, hlen, hf⟩ := DataW.trod_struct Try.underlying67 h
 rw [cellsOf67] at hl
 match cs, hl, xs, hlen with
 | [c0, c1], _, [y0, y1], _ =>
  have h0 : DataW.trod enc Try.prog w base spare held n 43 (([c0, c1].drop 0).take (Try.prog.cellsOf 43)) = some y0 := hf 0 _ rfl
  have h1 : DataW.trod enc Try.prog w base spare held n 5 (([c0, c1].drop 1).take (Try.prog.cellsOf 5)) = some y1 := hf 1 _ rfl
  rw [show Try.prog.cellsOf 43 = 1 from by kernel_rfl] at h0
  rw [show Try.prog.cellsOf 5 = 1 from by kernel_rfl] at h1
  have hfa := fits_agg Try.underlying67 hF
  obtain ⟨a, e0, _, k0⟩ := DataW.trod_int Try.underlying43 h0
  obtain ⟨b, e1, _, k1⟩ := DataW.trod_int Try.underlying5 h1
  simp only [List.drop_zero, List.drop_succ_cons, List.take_succ_cons, List.take_zero, List.cons.injEq, and_true] at e0 e1
  subst e0 e1
  exact ⟨a, b, rfl, k0, k1⟩
theorem cellsOf56 : Try.prog.cellsOf 56 = 16 := by kernel_rfl
set_option maxRecDepth 8000 in
theorem open_pk0 {H : Type} {enc : TypeId × Value -> H} {w : World} {base : Nat} {held : Bool} {fuel : Nat} {cs : List Value} {x : DataW H × List MemPlace} (h : DataW.trod enc Try.prog w base (fun _ => true) held fuel 56 cs = some x) (hF : Fits Try.prog 56 x.1) :
  ∃ (kind : Int) (ZA : Int) (ZC : Int) (ZN : Int) (ZP : Int) (ZI : Int) (ZJ : Int) (repsA : Option Addr) (repsc : Nat) (ZE : List Rp) (name : ByteArray) (srcsA : Option Addr) (srcsc : Nat) (ZG : List Int) (seqsA : Option Addr) (seqsc : Nat) (ZH : List Int) (pbase : Int) (ref : Int) (count : Int) (arrsA : Option Addr) (arrsc : Nat) (ZF : List Int) (wantsA : Option Addr) (wantsc : Nat) (ZB : List Wn), cs = [.int .i64 kind, .int .u32 ZA, .int .u32 ZC, .int .u64 ZN, .int .u32 ZP, .int .u32 ZI, .int .u32 ZJ, .slice repsA ZE.length repsc, .string name, .slice srcsA ZG.length srcsc, .slice seqsA ZH.length seqsc, .int .u16 pbase, .int .u32 ref, .int .u8 count, .slice arrsA ZF.length arrsc, .slice wantsA ZB.length wantsc] /\ (Lit.int .i64 kind).wf = true /\ (Lit.int .u32 ZA).wf = true /\ (Lit.int .u32 ZC).wf = true /\ (Lit.int .u64 ZN).wf = true /\ (Lit.int .u32 ZP).wf = true /\ (Lit.int .u32 ZI).wf = true /\ (Lit.int .u32 ZJ).wf = true /\ VG (Zh.of w) 7 ElR repsA ZE /\ ZE.length * 28 <= 140737488351232 /\ ZE.length <= repsc /\ name.size <= maxLen /\ VG (Zh.of w) 1 (ElN .u32) srcsA ZG /\ ZG.length * 4 <= 140737488351232 /\ ZG.length <= srcsc /\ VG (Zh.of w) 1 (ElN .u16) seqsA ZH /\ ZH.length * 2 <= 140737488351232 /\ ZH.length <= seqsc /\ (Lit.int .u16 pbase).wf = true /\ (Lit.int .u32 ref).wf = true /\ (Lit.int .u8 count).wf = true /\ VG (Zh.of w) 1 (ElN .i64) arrsA ZF /\ ZF.length * 8 <= 140737488351232 /\ ZF.length <= arrsc /\ VG (Zh.of w) 2 ElW wantsA ZB /\ ZB.length * 8 <= 140737488351232 /\ ZB.length <= wantsc := by
 obtain ⟨xs, n, _, rfl, hl, hlen, hf⟩ := DataW.trod_struct Try.underlying56 h
 rw [cellsOf56] at hl
 match cs, hl, xs, hlen with
 | [c0, c1, c2, c3, c4, c5, c6, c7, c8, c9, c10, c11, c12, c13, c14, c15], _, [y0, y1, y2, y3, y4, y5, y6, y7, y8, y9, y10, y11, y12, y13, y14, y15], _ =>
  have h0 : DataW.trod enc Try.prog w base (fun _ => true) held n 3 (([c0, c1, c2, c3, c4, c5, c6, c7, c8, c9, c10, c11, c12, c13, c14, c15].drop 0).take (Try.prog.cellsOf 3)) = some y0 := hf 0 _ rfl
  have h1 : DataW.trod enc Try.prog w base (fun _ => true) held n 43 (([c0, c1, c2, c3, c4, c5, c6, c7, c8, c9, c10, c11, c12, c13, c14, c15].drop 1).take (Try.prog.cellsOf 43)) = some y1 := hf 1 _ rfl
  have h2 : DataW.trod enc Try.prog w base (fun _ => true) held n 43 (([c0, c1, c2, c3, c4, c5, c6, c7, c8, c9, c10, c11, c12, c13, c14, c15].drop 2).take (Try.prog.cellsOf 43)) = some y2 := hf 2 _ rfl
  have h3 : DataW.trod enc Try.prog w base (fun _ => true) held n 45 (([c0, c1, c2, c3, c4, c5, c6, c7, c8, c9, c10, c11, c12, c13, c14, c15].drop 3).take (Try.prog.cellsOf 45)) = some y3 := hf 3 _ rfl
  have h4 : DataW.trod enc Try.prog w base (fun _ => true) held n 43 (([c0, c1, c2, c3, c4, c5, c6, c7, c8, c9, c10, c11, c12, c13, c14, c15].drop 4).take (Try.prog.cellsOf 43)) = some y4 := hf 4 _ rfl
  have h5 : DataW.trod enc Try.prog w base (fun _ => true) held n 43 (([c0, c1, c2, c3, c4, c5, c6, c7, c8, c9, c10, c11, c12, c13, c14, c15].drop 5).take (Try.prog.cellsOf 43)) = some y5 := hf 5 _ rfl
  have h6 : DataW.trod enc Try.prog w base (fun _ => true) held n 43 (([c0, c1, c2, c3, c4, c5, c6, c7, c8, c9, c10, c11, c12, c13, c14, c15].drop 6).take (Try.prog.cellsOf 43)) = some y6 := hf 6 _ rfl
  have h7 : DataW.trod enc Try.prog w base (fun _ => true) held n 53 (([c0, c1, c2, c3, c4, c5, c6, c7, c8, c9, c10, c11, c12, c13, c14, c15].drop 7).take (Try.prog.cellsOf 53)) = some y7 := hf 7 _ rfl
  have h8 : DataW.trod enc Try.prog w base (fun _ => true) held n 9 (([c0, c1, c2, c3, c4, c5, c6, c7, c8, c9, c10, c11, c12, c13, c14, c15].drop 8).take (Try.prog.cellsOf 9)) = some y8 := hf 8 _ rfl
  have h9 : DataW.trod enc Try.prog w base (fun _ => true) held n 47 (([c0, c1, c2, c3, c4, c5, c6, c7, c8, c9, c10, c11, c12, c13, c14, c15].drop 9).take (Try.prog.cellsOf 47)) = some y9 := hf 9 _ rfl
  have h10 : DataW.trod enc Try.prog w base (fun _ => true) held n 44 (([c0, c1, c2, c3, c4, c5, c6, c7, c8, c9, c10, c11, c12, c13, c14, c15].drop 10).take (Try.prog.cellsOf 44)) = some y10 := hf 10 _ rfl
  have h11 : DataW.trod enc Try.prog w base (fun _ => true) held n 42 (([c0, c1, c2, c3, c4, c5, c6, c7, c8, c9, c10, c11, c12, c13, c14, c15].drop 11).take (Try.prog.cellsOf 42)) = some y11 := hf 11 _ rfl
  have h12 : DataW.trod enc Try.prog w base (fun _ => true) held n 43 (([c0, c1, c2, c3, c4, c5, c6, c7, c8, c9, c10, c11, c12, c13, c14, c15].drop 12).take (Try.prog.cellsOf 43)) = some y12 := hf 12 _ rfl
  have h13 : DataW.trod enc Try.prog w base (fun _ => true) held n 5 (([c0, c1, c2, c3, c4, c5, c6, c7, c8, c9, c10, c11, c12, c13, c14, c15].drop 13).take (Try.prog.cellsOf 5)) = some y13 := hf 13 _ rfl
  have h14 : DataW.trod enc Try.prog w base (fun _ => true) held n 48 (([c0, c1, c2, c3, c4, c5, c6, c7, c8, c9, c10, c11, c12, c13, c14, c15].drop 14).take (Try.prog.cellsOf 48)) = some y14 := hf 14 _ rfl
  have h15 : DataW.trod enc Try.prog w base (fun _ => true) held n 54 (([c0, c1, c2, c3, c4, c5, c6, c7, c8, c9, c10, c11, c12, c13, c14, c15].drop 15).take (Try.prog.cellsOf 54)) = some y15 := hf 15 _ rfl
  rw [show Try.prog.cellsOf 3 = 1 from by kernel_rfl] at h0
  rw [show Try.prog.cellsOf 43 = 1 from by kernel_rfl] at h1
  rw [show Try.prog.cellsOf 43 = 1 from by kernel_rfl] at h2
  rw [show Try.prog.cellsOf 45 = 1 from by kernel_rfl] at h3
  rw [show Try.prog.cellsOf 43 = 1 from by kernel_rfl] at h4
  rw [show Try.prog.cellsOf 43 = 1 from by kernel_rfl] at h5
  rw [show Try.prog.cellsOf 43 = 1 from by kernel_rfl] at h6
  rw [show Try.prog.cellsOf 53 = 1 from by kernel_rfl] at h7
  rw [show Try.prog.cellsOf 9 = 1 from by kernel_rfl] at h8
  rw [show Try.prog.cellsOf 47 = 1 from by kernel_rfl] at h9
  rw [show Try.prog.cellsOf 44 = 1 from by kernel_rfl] at h10
  rw [show Try.prog.cellsOf 42 = 1 from by kernel_rfl] at h11
  rw [show Try.prog.cellsOf 43 = 1 from by kernel_rfl] at h12
  rw [show Try.prog.cellsOf 5 = 1 from by kernel_rfl] at h13
  rw [show Try.prog.cellsOf 48 = 1 from by kernel_rfl] at h14
  rw [show Try.prog.cellsOf 54 = 1 from by kernel_rfl] at h15
  have hfa := fits_agg Try.underlying56 hF
  obtain ⟨kind, e0, _, k0⟩ := DataW.trod_int Try.underlying3 h0
  obtain ⟨ZA, e1, _, k1⟩ := DataW.trod_int Try.underlying43 h1
  obtain ⟨ZC, e2, _, k2⟩ := DataW.trod_int Try.underlying43 h2
  obtain ⟨ZN, e3, _, k3⟩ := DataW.trod_int Try.underlying45 h3
  obtain ⟨ZP, e4, _, k4⟩ := DataW.trod_int Try.underlying43 h4
  obtain ⟨ZI, e5, _, k5⟩ := DataW.trod_int Try.underlying43 h5
  obtain ⟨ZJ, e6, _, k6⟩ := DataW.trod_int Try.underlying43 h6
  obtain ⟨repsA, repsc, ZE, e7, hR7, hl7, _, hc7⟩ := WX (El := ElR) (size := 7) (by_ := 28) Try.underlying53 (by kernel_rfl) (by kernel_rfl) (by decide) (by decide) (fun f cs x h hF => by
   obtain ⟨a, b, c, d, e, f, g, rfl, k⟩ := open_rp0 h hF
   exact ⟨⟨a, b, c, d, e, f, g⟩, rfl, k⟩) h7 (ZT (ZT (ZT (ZT (ZT (ZT (ZT (ZT hfa).2).2).2).2).2).2).2).1
  obtain ⟨name, e8, d8, k8⟩ := DataW.trod_string Try.underlying9 h8
  obtain ⟨srcsA, srcsc, ZG, e9, hR9, hl9, _, hc9⟩ := WX (El := (ElN .u32)) (size := 1) (by_ := 4) Try.underlying47 (by kernel_rfl) (by kernel_rfl) (by decide) (by decide) (fun f cs x h _ => by
   obtain ⟨n, e, _, k⟩ := DataW.trod_int Try.underlying43 h
   exact ⟨n, e, k⟩) h9 (ZT (ZT (ZT (ZT (ZT (ZT (ZT (ZT (ZT (ZT hfa).2).2).2).2).2).2).2).2).2).1
  obtain ⟨seqsA, seqsc, ZH, e10, hR10, hl10, _, hc10⟩ := WX (El := (ElN .u16)) (size := 1) (by_ := 2) Try.underlying44 (by kernel_rfl) (by kernel_rfl) (by decide) (by decide) (fun f cs x h _ => by
   obtain ⟨n, e, _, k⟩ := DataW.trod_int Try.underlying42 h
   exact ⟨n, e, k⟩) h10 (ZT (ZT (ZT (ZT (ZT (ZT (ZT (ZT (ZT (ZT (ZT hfa).2).2).2).2).2).2).2).2).2).2).1
  obtain ⟨pbase, e11, _, k11⟩ := DataW.trod_int Try.underlying42 h11
  obtain ⟨ref, e12, _, k12⟩ := DataW.trod_int Try.underlying43 h12
  obtain ⟨count, e13, _, k13⟩ := DataW.trod_int Try.underlying5 h13
  obtain ⟨arrsA, arrsc, ZF, e14, hR14, hl14, _, hc14⟩ := WX (El := (ElN .i64)) (size := 1) (by_ := 8) Try.underlying48 (by kernel_rfl) (by kernel_rfl) (by decide) (by decide) (fun f cs x h _ => by
   obtain ⟨n, e, _, k⟩ := DataW.trod_int Try.underlying3 h
   exact ⟨n, e, k⟩) h14 (ZT (ZT (ZT (ZT (ZT (ZT (ZT (ZT (ZT (ZT (ZT (ZT (ZT (ZT (ZT hfa).2).2).2).2).2).2).2).2).2).2).2).2).2).2).1
  obtain ⟨wantsA, wantsc, ZB, e15, hR15, hl15, _, hc15⟩ := WX (El := ElW) (size := 2) (by_ := 8) Try.underlying54 (by kernel_rfl) (by kernel_rfl) (by decide) (by decide) (fun f cs x h hF => by
   obtain ⟨a, b, rfl, k⟩ := open_wn0 h hF
   exact ⟨⟨a, b⟩, rfl, k⟩) h15 (ZT (ZT (ZT (ZT (ZT (ZT (ZT (ZT (ZT (ZT (ZT (ZT (ZT (ZT (ZT (ZT hfa).2).2).2).2).2).2).2).2).2).2).2).2).2).2).2).1
  simp only [List.drop_zero, List.drop_succ_cons, List.take_succ_cons, List.take_zero, List.cons.injEq, and_true] at e0 e1 e2 e3 e4 e5 e6 e7 e8 e9 e10 e11 e12 e13 e14 e15
  subst e0 e1 e2 e3 e4 e5 e6 e7 e8 e9 e10 e11 e12 e13 e14 e15
  exact ⟨kind, ZA, ZC, ZN, ZP, ZI, ZJ, repsA, repsc, ZE, name, srcsA, srcsc, ZG, seqsA, seqsc, ZH, pbase, ref, count, arrsA, arrsc, ZF, wantsA, wantsc, ZB, rfl, k0, k1, k2, k3, k4, k5, k6, hR7, hl7, hc7, k8, hR9, hl9, hc9, hR10, hl10, hc10, k11, k12, k13, hR14, hl14, hc14, hR15, hl15, hc15⟩
def ElP (I : Zh) (cs : List Value) (x : Pk × Vs) : Prop := cs = pvC x /\ PkIn I x.1 x.2 /\ W9 x.1
theorem open_pk {H : Type} {enc : TypeId × Value -> H} {w : World} {base : Nat} {held : Bool} {fuel : Nat} {cs : List Value} {x : DataW H × List MemPlace} (h : DataW.trod enc Try.prog w base (fun _ => true) held fuel 56 cs = some x) (hF : Fits Try.prog 56 x.1) :
  ∃ y : Pk × Vs, ElP (Zh.of w) cs y := by
 obtain ⟨kind, ZA, ZC, ZN, ZP, ZI, ZJ, rA, rc, ZE, name, sA, sc, ZG, qA, qc, ZH, pbase, ref, count, aA, ac, ZF, wA, wc, ZB, rfl, _, k1, k2, k3, k4, k5, k6, hr, lr, cr, hn, hs, ls, cs, hq, lq, cq, kb, kr, kc, ha, la, ca, hw, lw, cw⟩ := open_pk0 h hF
 refine ⟨(⟨kind, ZA, ZC, ZN, ZP, ZI, ZJ, ZE, name, ZG, ZH, pbase, ref, count, ZF, ZB⟩, ⟨.slice rA ZE.length rc, .slice sA ZG.length sc, .slice qA ZH.length qc, .slice aA ZF.length ac, .slice wA ZB.length wc⟩), rfl, ⟨⟨rA, rc, rfl, flatOf hr (fun _ _ h => h.1) (fun _ => rfl) (by decide), cr⟩, ⟨sA, sc, rfl, flatOf hs (fun _ _ h => h.1) (fun _ => rfl) (by decide), cs⟩, ⟨qA, qc, rfl, flatOf hq (fun _ _ h => h.1) (fun _ => rfl) (by decide), cq⟩, ⟨aA, ac, rfl, flatOf ha (fun _ _ h => h.1) (fun _ => rfl) (by decide), ca⟩, ⟨wA, wc, rfl, flatOf hw (fun _ _ h => h.1) (fun _ => rfl) (by decide), cw⟩⟩, ?_⟩
 refine ⟨wf32 k1, wf32 k2, wf64 k3, wf32 k4, wf32 k5, wf32 k6, fun x hx => ?_, fun x hx => ?_, fun x hx => ?_, wf16 kb, wf32 kr, wf8 kc, fun x hx => ?_, by show ZE.length <= _; omega, by show ZG.length <= _; omega, by show ZH.length <= _; omega, by show ZF.length <= _; omega, by show ZB.length <= _; omega, hn, lr, ls, lq, la, lw⟩
 ·obtain ⟨_, _, j1, j2, j3, j4, j5, j6, j7⟩ := elOf hr x hx
  have j1 := wf32 j1; have j2 := wf8 j2; have j3 := wf32 j3; have j4 := wf32 j4; have j5 := wf32 j5; have j6 := wf32 j6; have j7 := wf32 j7
  exact ⟨by omega, by omega, by omega, by omega, by omega, by omega, by omega⟩
 ·obtain ⟨_, _, j1⟩ := elOf hs x hx
  exact wf32 j1
 ·obtain ⟨_, _, j1⟩ := elOf hq x hx
  exact wf16 j1
 obtain ⟨_, _, j1, j2⟩ := elOf hw x hx
 exact ⟨wf32 j1, wf8 j2⟩
theorem pks_of {I : Zh} {A : Option Addr} {ps : List (Pk × Vs)} (h : VG I 16 ElP A ps) (hl : ps.length * 192 <= 140737488351232) : Pks I A ps :=
 ⟨flatOf h (fun _ _ h => h.1) (fun _ => rfl) (by decide), fun x hx => by obtain ⟨_, _, h2⟩ := elOf h x hx; exact h2, by omega⟩
def XD (f s k : Int) : Bool := decide ((Z8 k).1 = s) && (decide ((Z8 k).2 < 0) || decide ((Z8 k).2 = f % 32))
def XR (f s : Int) : Int := if XD f s 1 then 1 else if XD f s 2 then 2 else if XD f s 3 then 3 else if XD f s 4 then 4 else if XD f s 5 then 5 else if XD f s 6 then 6 else if XD f s 7 then 7 else if XD f s 8 then 8 else 0
theorem kindP_ways (f s : Int) : XR f s = 0 \/ XR f s = 1 \/ XR f s = 2 \/ XR f s = 3 \/ XR f s = 4 \/ XR f s = 5 \/ XR f s = 6 \/ XR f s = 7 \/ XR f s = 8 := by
 unfold XR
 repeat' split
 all_goals simp
theorem kindP_hit {f s : Int} {k : Nat} (hk : 1 <= k /\ k <= 8) (hno : ∀ j : Nat, 1 <= j -> j < k -> XD f s j = false) (h : XD f s k = true) : XR f s = k := by
 have hw : k = 1 \/ k = 2 \/ k = 3 \/ k = 4 \/ k = 5 \/ k = 6 \/ k = 7 \/ k = 8 := by omega
 have n1 : 1 < k -> XD f s 1 = false := hno 1 (by omega)
 have n2 : 2 < k -> XD f s 2 = false := hno 2 (by omega)
 have n3 : 3 < k -> XD f s 3 = false := hno 3 (by omega)
 have n4 : 4 < k -> XD f s 4 = false := hno 4 (by omega)
 have n5 : 5 < k -> XD f s 5 = false := hno 5 (by omega)
 have n6 : 6 < k -> XD f s 6 = false := hno 6 (by omega)
 have n7 : 7 < k -> XD f s 7 = false := hno 7 (by omega)
 unfold XR
 rcases hw with rfl | rfl | rfl | rfl | rfl | rfl | rfl | rfl <;> simp at n1 n2 n3 n4 n5 n6 n7 h <;> simp [n1, n2, n3, n4, n5, n6, n7, h]
theorem kindP_none {f s : Int} (hno : ∀ j : Nat, 1 <= j -> j < 9 -> XD f s j = false) : XR f s = 0 := by
 have n1 := hno 1 (by omega) (by omega)
 have n2 := hno 2 (by omega) (by omega)
 have n3 := hno 3 (by omega) (by omega)
 have n4 := hno 4 (by omega) (by omega)
 have n5 := hno 5 (by omega) (by omega)
 have n6 := hno 6 (by omega) (by omega)
 have n7 := hno 7 (by omega) (by omega)
 have n8 := hno 8 (by omega) (by omega)
 simp at n1 n2 n3 n4 n5 n6 n7 n8
 unfold XR
 simp [n1, n2, n3, n4, n5, n6, n7, n8]
theorem and_31 {f : Int} (h0 : 0 <= f) (h1 : f <= 255) : bits BinOp.and IntKind.u8 f 31 = f % 32 := by
 have : ∀ k : Fin 256, bits BinOp.and IntKind.u8 (k.1 : Int) 31 = (k.1 : Int) % 32 := by decide +kernel
 have := this ⟨f.toNat, by omega⟩
 simp only [] at this
 rw [show ((f.toNat : Nat) : Int) = f from by omega] at this
 exact this
set_option maxRecDepth 8000 in
set_option maxHeartbeats 4000000 in
theorem kindC (f s : Int) (w : World) (hf : 0 <= f /\ f <= 255) : Calls Try.prog 61 #[.int .u8 f, .int .u8 s] w fun e w' => e = .returned (.int .i64 (XR f s)) /\ w = w' := by
 have hand := and_31 hf.1 hf.2
 obtain ⟨lo, hlo⟩ : ∃ lo, lo = f % 32 := ⟨_, rfl⟩
 rw [<- hlo] at hand
 have hl1 : 0 <= lo := by omega
 have hl2 : lo <= 31 := by omega
 have HLO := VL hlo
 clear hlo hf
 go_enter Try.func61, Try.ntmps61
 go_upto_region 2 with fail
 go_loopw [5] (fun kv wr => ∃ k : Nat, kv = .int .i64 k /\ 1 <= k /\ k <= 9 /\ wr = w /\ Hid (∀ j : Nat, 1 <= j -> j < k -> XD f s j = false)) (fun kv _ => 9 - (intOf kv).toNat)
 case atStart => exact ⟨1, by go_num, by omega, by omega, rfl, VL (fun j h1 h2 => by omega)⟩
 case round =>
  obtain ⟨k, rfl, hk1, hk9, hwr, HNO⟩ := hrel
  subst hwr
  by_cases hk8 : k <= 8
  ·have hk8i : (k : Int) <= 8 := by omega
   have HW := VD k wr
   obtain ⟨a, ha⟩ : ∃ a, a = (Z8 k).1 := ⟨_, rfl⟩
   obtain ⟨b, hb⟩ : ∃ b, b = (Z8 k).2 := ⟨_, rfl⟩
   rw [<- ha, <- hb] at HW
   have HAB := VL (And.intro ha hb)
   have HW := VL HW
   clear ha hb
   by_cases h1 : a = s
   ·have h1b : (a == s) = true := by simpa using h1
    by_cases h2 : b < 0
    ·have HK := VL (show XR f s = k from kindP_hit ⟨hk1, hk8⟩ HNO.out (by unfold XD; rw [<- HAB.out.1, <- HAB.out.2, decide_eq_true h1, decide_eq_true h2]; rfl))
     subst h1
     clear HNO
     go_wp2_with (go_at_call 47; refine HW.out.mono ?_; clear HW; rintro e w2 ⟨rfl, hw⟩; subst hw)
     go_returns
     exact ⟨by rw [HK.out]; rfl, rfl⟩
    have h2b : (b < 0) = False := eq_false h2
    by_cases h3 : b = lo
    ·have h3b : (b == lo) = true := by simpa using h3
     have HK := VL (show XR f s = k from kindP_hit ⟨hk1, hk8⟩ HNO.out (by unfold XD; rw [<- HAB.out.1, <- HAB.out.2, <- HLO.out, decide_eq_true h1, decide_eq_false h2, decide_eq_true h3]; rfl))
     clear HNO
     go_wp2_with (go_at_call 47; refine HW.out.mono ?_; clear HW; rintro e w2 ⟨rfl, hw⟩; subst hw)
     go_returns
     exact ⟨by rw [HK.out]; rfl, rfl⟩
    have h3b : (b == lo) = false := by simpa using h3
    have HM := VL (show XD f s k = false by unfold XD; rw [<- HAB.out.1, <- HAB.out.2, <- HLO.out, decide_eq_true h1, decide_eq_false h2, decide_eq_false h3]; rfl)
    go_wp2_with (go_at_call 47; refine HW.out.mono ?_; clear HW; rintro e w2 ⟨rfl, hw⟩; subst hw)
    go_roundw
    case rel =>
     refine ⟨k + 1, by go_num, by omega, by omega, by first | rfl | trivial, VL (fun j j1 j2 => ?_)⟩
     by_cases e : j = k
     ·subst e; exact HM.out
     exact HNO.out j j1 (by omega)
    case measure => simp [intOf]; omega
   have h1b : (a == s) = false := by simpa using h1
   have HM := VL (show XD f s k = false by unfold XD; rw [<- HAB.out.1, decide_eq_false h1]; rfl)
   go_wp2_with (go_at_call 47; refine HW.out.mono ?_; clear HW; rintro e w2 ⟨rfl, hw⟩; subst hw)
   go_roundw
   case rel =>
    refine ⟨k + 1, by go_num, by omega, by omega, by first | rfl | trivial, VL (fun j j1 j2 => ?_)⟩
    by_cases e : j = k
    ·subst e; exact HM.out
    exact HNO.out j j1 (by omega)
   case measure => simp [intOf]; omega
  have hk8i : ¬ (k : Int) <= 8 := by omega
  have HK := VL (show XR f s = 0 from kindP_none (fun j j1 j2 => HNO.out j j1 (by omega)))
  clear HNO
  go_wp2
  go_returns
  exact ⟨by rw [HK.out]; rfl, rfl⟩
end Go.Proofs.Ytddopbbmgpnjjaa
