/- copy into a block of the call's own; blocks made and handed to the image; bytes amid a block. -/
import Derived.Test.YtakgdmcekhafoaaDoorMo
import Derived.Laws.CopyOwn
import Derived.Deep.CutBlock
namespace Go.Proofs.YtakgdmcekhafoaaDoor
open Go.RowKit
set_option linter.unusedSimpArgs false

theorem St.allocF {I : Img} {M : List Res} {w : World} (h : St I M w) (t : TypeId) (cs : Array Value) : ∃ J, I.le J ∧ St J M (w.alloc (.cells cs t)) ∧ J.obj w.heap.size = some (.cells cs t (0, 0)) := (h.alloc t cs).freezeBlk
theorem Byts.ofBlkAt {I : Img} {g t o : Nat} {cs : Array Value} {l : List UInt8} (h : I.obj g = some (.cells cs t (0, 0))) (hl : (cs.toList.drop o).take l.length = bvs l) : Byts I (some ⟨g, o, none⟩) l := by
  intro _
  refine ⟨g, o, rfl, fun j hj => ?_⟩
  simp only [Img.cell?, h]
  rw [bvs_len] at hj
  have e := congrArg (fun l => l[j]?) hl
  simp only [List.getElem?_take, hj, if_true, List.getElem?_drop, Array.getElem?_toList] at e
  show (if false = true then none else cs[o + j]?) = _
  rw [if_neg (by decide), e, List.getElem?_eq_getElem (by rw [bvs_len]; exact hj)]
theorem wpList_copy_St {P : Program} {I : Img} {M : List Res} {w : World} {ops : Array Oper} {rest : List Oper} {o : Oper} {a : Act} {Q : Exit → Act → World → Prop} (hgd : o.guard = none) (d s : Operand) (dT sT : TypeId)
    (ho : o.op = .call { callee := .builtin .copy, args := #[d, s], argTypes := #[dT, sT] }) (elem : TypeId) (hu : P.underlying dT = some (.slice elem)) (hsz : (P.info? elem).map (·.size) = some 1)
    (dp sp : Option Addr) (dLen dCap sLen sCap : Nat) (hd : a.eval d = .slice dp dLen dCap) (hs : a.eval s = .slice sp sLen sCap)
    (g off : Nat) (cur : List Value) (t : TypeId) (hst : St I (bk g t cur.toArray :: M) w) (cs : List Value) (hn : cs.length = Nat.min sLen dLen)
    (hpos : 0 < cs.length → dp = some ⟨g, off, none⟩ ∧ ∃ ad, sp = some ad ∧ ∀ j v, cs[j]? = some v → w.cell? (ad.add j) = some v)
    (hfit : off + cs.length ≤ cur.length) (h1 : ∀ v ∈ cs, v.oneCell' = true)
    (h : ∀ w', St I (bk g t (splice cur off cs).toArray :: M) w' → wpList P ops Q rest (a.put o.dst (goInt cs.length)) w') :
    wpList P ops Q (o :: rest) a w := by
  by_cases h0 : cs.length = 0
  · obtain rfl : cs = [] := List.eq_nil_of_length_eq_zero h0
    refine wpList_copy_nothing hgd d s dT sT ho elem hu hsz dp sp dLen dCap sLen sCap hd hs (by simpa using hn.symm) ?_
    exact h w (by simpa [splice] using hst)
  · obtain ⟨rfl, ad, rfl, hsrc⟩ := hpos (by omega)
    refine wpList_copy_own hgd d s dT sT ho elem hu hsz g off dLen dCap ad sLen sCap hd hs cur.toArray t hst.head cs hn hsrc (by simpa using hfit) h1 ?_
    exact h _ (by simpa [splice] using hst.setR (splice cur off cs).toArray)
/-- what a copy reads: bytes that stay as they are -/
theorem Byts.reads {I : Img} {M : List Res} {w : World} {A : Option Addr} {bs : List UInt8} (h : Byts I A bs) (hs : St I M w) : 0 < (bvs bs).length → ∃ ad, A = some ad ∧ ∀ j v, (bvs bs)[j]? = some v → w.cell? (ad.add j) = some v := by
  intro h0
  obtain ⟨g, o, e, hc⟩ := h h0
  refine ⟨_, e, fun j v hj => ?_⟩
  have hl : j < (bvs bs).length := (List.getElem?_eq_some_iff.1 hj).1
  rw [add_at, hs.cell (hc j hl)]
  rw [List.getElem?_eq_getElem hl] at hj
  exact hj
end Go.Proofs.YtakgdmcekhafoaaDoor
