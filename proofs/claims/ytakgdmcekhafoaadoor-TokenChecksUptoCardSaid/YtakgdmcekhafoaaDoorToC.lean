/- sha1.sum: what it computes. -/
import Derived.Test.YtakgdmcekhafoaaDoorToB
import Derived.Test.YtakgdmcekhafoaaDoorOff
namespace Go.Proofs.YtakgdmcekhafoaaDoor
open Go.RowKit
set_option linter.unusedSimpArgs false

def initS : S5 := ⟨1732584193#32, 4023233417#32, 2562383102#32, 271733878#32, 3285377520#32⟩
/-- the first k blocks of bytes -/
def blocksN (l : List UInt8) : Nat → S5
  | 0 => initS
  | k + 1 => blockS (blocksN l k) ((l.drop (64 * k)).take 64)
theorem blocksN_app (l r : List UInt8) : ∀ k, 64 * k ≤ l.length → blocksN (l ++ r) k = blocksN l k
  | 0, _ => rfl
  | k + 1, h => by
    unfold blocksN
    rw [blocksN_app l r k (by omega), List.drop_append_of_le_length (by omega), List.take_append_of_le_length (by rw [List.length_drop]; omega)]
/-- a length in bits, as eight bytes -/
def len8 (n : Nat) : List UInt8 := (List.range 8).map fun i => UInt8.ofNat (n * 8 % 18446744073709551616 / 2 ^ (56 - 8 * i))
def zerosFor (n : Nat) : Nat := (119 - n % 64) % 64
def padS (m : List UInt8) : List UInt8 := m ++ 128 :: (List.replicate (zerosFor m.length) 0 ++ len8 m.length)
theorem len8_len (n : Nat) : (len8 n).length = 8 := by simp [len8]
theorem padS_len (m : List UInt8) : (padS m).length % 64 = 0 := by
  unfold padS zerosFor
  simp only [List.length_append, List.length_cons, List.length_replicate, len8_len]
  omega
def shaS (m : List UInt8) : S5 := blocksN (padS m) ((padS m).length / 64)
def word4 (x : BitVec 32) : List UInt8 := [UInt8.ofNat (x.toNat / 16777216), UInt8.ofNat (x.toNat / 65536), UInt8.ofNat (x.toNat / 256), UInt8.ofNat x.toNat]
def outS (s : S5) : List UInt8 := word4 s.a ++ (word4 s.b ++ (word4 s.c ++ (word4 s.d ++ word4 s.e)))
theorem outS_len (s : S5) : (outS s).length = 20 := rfl
/-- a part that is read, wherever it lies -/
def PartIn (I : Img) (M : List Res) (v : Value) (bs : List UInt8) : Prop := (∃ A c, v = .slice A bs.length c) ∧ ∀ (L : List Res) (w : World), St I (L ++ M) w → Src Tryd.prog 1 22 v bs.length (bvs bs) w
theorem info5 : (Tryd.prog.info? 5).map (fun i => (i.zero, i.size, i.bytes)) = some (some (.int .u8 0), 1, 1) := by kernel_rfl
abbrev zero20 : Array Value := #[.int .u8 0, .int .u8 0, .int .u8 0, .int .u8 0, .int .u8 0, .int .u8 0, .int .u8 0, .int .u8 0, .int .u8 0, .int .u8 0, .int .u8 0, .int .u8 0, .int .u8 0, .int .u8 0, .int .u8 0, .int .u8 0, .int .u8 0, .int .u8 0, .int .u8 0, .int .u8 0]
theorem orow_reads {I : Img} {M : List Res} {A : Option Addr} {n c : Nat} {bs : List UInt8} {w : World} (h : offRow w 5 (.slice A n c) bs) (h64 : 64 ≤ bs.length) :
    ∃ g o, A = some ⟨g, o, none⟩ ∧ n = bs.length ∧ Reads I (orow 5 (.slice A n c) bs :: M) g o (bs.take 64) := by
  obtain ⟨g, o, c', e, _⟩ := h.cells (by omega)
  injection e with e1 e2 e3
  subst e1 e2 e3
  refine ⟨g, o, rfl, rfl, fun L w hs j hj => ?_⟩
  have ho : offRow w 5 (.slice (some ⟨g, o, none⟩) bs.length c) bs := hs.res (orow 5 (.slice (some ⟨g, o, none⟩) bs.length c) bs) (by simp)
  obtain ⟨g', o', c2, e, hc⟩ := ho.cells (by omega)
  injection e with e1 _ _
  injection e1 with e1
  injection e1 with e1 e2 _
  subst e1 e2
  rw [List.length_take] at hj
  rw [hc j (by omega)]
  simp
abbrev initC : Array Value := #[.int .u32 1732584193, .int .u32 4023233417, .int .u32 2562383102, .int .u32 271733878, .int .u32 3285377520]
theorem init_lit : initC = st5 initS := by kernel_rfl
def outC (s : S5) (i : Nat) : Array Value := (bvs ((outS s).take i ++ List.replicate (20 - i) 0)).toArray
theorem info61 : (Tryd.prog.info? 61).map (·.size) = some 20 := by kernel_rfl
/-- what has come in so far: the blocks that were done, and what is left -/
def SumSt (I : Img) (M : List Res) (q r : Nat) (A : Option Addr) (c : Nat) (rest S : List UInt8) (w : World) : Prop :=
  ∃ j : Nat, rest = S.drop (64 * j) ∧ 64 * j ≤ S.length ∧ St I (orow 5 (.slice A rest.length c) rest :: bk q 106 (st5 (blocksN S j)) :: bk r 61 zero20 :: M) w
theorem SumSt.app {I : Img} {M : List Res} {q r : Nat} {A : Option Addr} {c : Nat} {rest S news : List UInt8} {w w' : World} {v' : Value} (h : SumSt I M q r A c rest S w) (hoff : offRow w' 5 v' (rest ++ news)) (hg : w.grownBy w' (Value.ownBlock (.slice A rest.length c)))
    (hat : v'.ownBlock = Value.ownBlock (.slice A rest.length c) ∨ v'.ownBlock = some w.heap.size) : ∃ A' c', v' = .slice A' (rest ++ news).length c' ∧ SumSt I M q r A' c' (rest ++ news) (S ++ news) w' := by
  obtain ⟨A', c', rfl⟩ := hoff.form
  obtain ⟨j, h1, h2, hs⟩ := h
  refine ⟨A', c', rfl, j, ?_, ?_, ?_⟩
  · rw [List.drop_append_of_le_length h2, ← h1]
  · rw [List.length_append]; omega
  · rw [blocksN_app _ _ _ h2]
    exact hs.ogrown hg hoff hat
theorem SumSt.grow {I : Img} {M : List Res} {q r : Nat} {A : Option Addr} {c : Nat} {rest S : List UInt8} {w : World} (h : SumSt I M q r A c rest S w) (o : Obj) : SumSt I M q r A c rest S (w.alloc o) := by
  obtain ⟨j, h1, h2, hs⟩ := h
  exact ⟨j, h1, h2, hs.grow o⟩
theorem SumSt.off {I : Img} {M : List Res} {q r : Nat} {A : Option Addr} {c : Nat} {rest S : List UInt8} {w : World} (h : SumSt I M q r A c rest S w) : offRow w 5 (.slice A rest.length c) rest := by
  obtain ⟨j, _, _, hs⟩ := h
  exact hs.head
theorem SumSt.one {I : Img} {M : List Res} {q r : Nat} {A : Option Addr} {c : Nat} {rest S : List UInt8} {w : World} (h : SumSt I M q r A c rest S w) (b : UInt8) : Src Tryd.prog 1 22 (.slice (some ⟨w.heap.size, 0, none⟩) 1 1) 1 (bvs [b]) (w.alloc (.cells #[bv b] 5)) := by
  obtain ⟨j, _, _, hs⟩ := h
  exact hs.litSrcV (P := Tryd.prog) (t := 22) (e := 5) (cs := #[bv b]) (n := 1) (size := 1) rfl (by decide) Tryd.underlying22 (by simp [bv, Value.oneCell'])
set_option maxRecDepth 8000 in
set_option maxHeartbeats 4000000 in
theorem sumP (I : Img) (M : List Res) (w : World) (pg po pc : Nat) (ps : List (Value × List UInt8)) (hst : St I M w) (hps : ∀ p ∈ ps, PartIn I M p.1 p.2) (hcell : ∀ (L : List Res) (w : World), St I (L ++ M) w → ∀ i (h : i < ps.length), w.cell? ⟨pg, po + i, none⟩ = some ps[i].1)
    (hk : ps.length ≤ 2) (h0 : 0 < ps.length) (hlen : (ps.map (·.2)).flatten.length ≤ 140737488355200) :
    Calls Tryd.prog 50 #[.slice (some ⟨pg, po, none⟩) ps.length pc] w (Ret I (fun v J M' => I = J ∧ v = .agg (bvs (outS (shaS (ps.map (·.2)).flatten))).toArray ∧ M' = M)) := by
  have hs1 := (hst.alloc 61 zero20).alloc 106 initC
  rw [World.size_alloc] at hs1
  obtain ⟨r, hr⟩ : ∃ r, r = w.heap.size := ⟨_, rfl⟩
  rw [← hr] at hs1
  have HR := Lib.hid hr
  obtain ⟨q, hq⟩ : ∃ q, q = r + 1 := ⟨_, rfl⟩
  rw [← hq] at hs1
  have hs := hs1.orow0 (e := 5)
  have HPS := Lib.hid hps
  have HCE := Lib.hid hcell
  clear hst hps hcell hs1
  go_enter Tryd.func50, Tryd.ntmps50
  go_upto_block 0 with fail
  rw [← hr, ← hq]
  have HQ := Lib.hid hq
  clear hr hq
  generalize World.alloc _ _ = W0 at hs ⊢
  rw [init_lit] at hs
  have HS := Lib.hid hs
  clear hs
  go_cut [4, 5] (fun rv nv wx => ∃ (A : Option Addr) (c j : Nat) (rest : List UInt8), rv = .slice A rest.length c ∧ nv = .int .u64 ((ps.map (·.2)).flatten.length : Int) ∧ rest.length < 64 ∧ Hid (rest = (ps.map (·.2)).flatten.drop (64 * j) ∧ 64 * j ≤ (ps.map (·.2)).flatten.length ∧ St I (orow 5 (.slice A rest.length c) rest :: bk q 106 (st5 (blocksN (ps.map (·.2)).flatten j)) :: bk r 61 zero20 :: M) wx))
  case first =>
    go_wp2_with fail
    go_loopw [4, 5, 14] (fun rv nv iv wr => ∃ (i : Nat) (A : Option Addr) (c j n : Nat) (rest : List UInt8), i ≤ ps.length ∧ iv = .int .i64 i ∧ rv = .slice A rest.length c ∧ nv = .int .u64 n ∧ n ≤ 140737488355200 ∧ rest.length < 64 ∧ Hid (n = ((ps.map (·.2)).take i).flatten.length ∧ rest = ((ps.map (·.2)).take i).flatten.drop (64 * j) ∧ 64 * j ≤ ((ps.map (·.2)).take i).flatten.length ∧ St I (orow 5 (.slice A rest.length c) rest :: bk q 106 (st5 (blocksN ((ps.map (·.2)).take i).flatten j)) :: bk r 61 zero20 :: M) wr)) (fun _ _ iv _ => ps.length - (intOf iv).toNat)
    case atStart => exact ⟨0, none, 0, 0, 0, [], by omega, rfl, rfl, rfl, by omega, by decide, Lib.hid ⟨rfl, rfl, Nat.zero_le _, HS.out⟩⟩
    case round =>
      obtain ⟨i, A, c, j, n, rest, hi, rfl, rfl, rfl, hn, hr64, HH⟩ := hrel
      clear HS
      by_cases hlt : i < ps.length
      rotate_left
      · obtain rfl : i = ps.length := by omega
        obtain ⟨h1, h2, h3, hs⟩ := HH.out
        rw [List.take_of_length_le (by simp)] at h1 h2 h3 hs
        have HE := Lib.hid (show _ ∧ _ ∧ _ from ⟨h2, h3, hs⟩)
        have HN := Lib.hid h1
        clear h1 h2 h3 hs HH hlt
        go_wp2
        go_meet
        exact ⟨A, c, j, rest, rfl, by rw [HN.out], hr64, HE⟩
      obtain ⟨h1, h2, h3, hs⟩ := HH.out
      have y0 : wr.cell? ⟨pg, po + i, none⟩ = some ps[i].1 := HCE.out [_, _, _] wr hs i hlt
      obtain ⟨⟨Ap, cp, hpv⟩, hsrc0⟩ := HPS.out ps[i] (List.getElem_mem hlt)
      have hsrc := hsrc0 [_, _, _] wr hs
      have hmi : ((ps.map (·.2)).take (i + 1)).flatten = ((ps.map (·.2)).take i).flatten ++ ps[i].2 := by
        rw [List.take_succ_eq_append_getElem (by simpa using hlt), List.flatten_append]
        simp
      have hml : ((ps.map (·.2)).take (i + 1)).flatten.length ≤ 140737488355200 := by
        have h : ((ps.map (·.2)).flatten) = ((ps.map (·.2)).take (i + 1)).flatten ++ ((ps.map (·.2)).drop (i + 1)).flatten := by rw [← List.flatten_append, List.take_append_drop]
        have := congrArg List.length h
        rw [List.length_append] at this
        omega
      have HMI := Lib.hid hmi
      obtain ⟨m, hm⟩ : ∃ m, m = ((ps.map (·.2)).take i).flatten := ⟨_, rfl⟩
      rw [← hm] at h1 h2 h3 hs HMI hmi
      rw [hmi] at hml
      obtain ⟨pb, hpb⟩ : ∃ b, b = ps[i].2 := ⟨_, rfl⟩
      rw [← hpb] at hpv hsrc HMI hml
      rw [hpv] at y0 hsrc
      have hpl : m.length + pb.length ≤ 140737488355200 := by rw [List.length_append] at hml; exact hml
      have hnm : n + pb.length ≤ 140737488355200 := by omega
      have HH2 := Lib.hid (show n = m.length ∧ rest = m.drop (64 * j) ∧ 64 * j ≤ m.length ∧ _ from ⟨h1, h2, h3, hs⟩)
      have HSRC := Lib.hid hsrc
      obtain ⟨i5, hi5, hz0, hz1, hz2⟩ := info_parts info5
      clear hmi hml hm hpb hpv hsrc hsrc0 HH h1 h2 h3
      have HOF := Lib.hid (show offRow wr 5 (.slice A rest.length c) rest from hs.head)
      clear hs
      go_upto_block 2 with (at_builtin; (refine wpList_append_off _ rfl _ _ 22 22 rfl 5 i5 (.int .u8 0) Tryd.underlying22 hi5 hz0 hz1 hz2 rfl _ rest rfl HOF.out _ pb rfl HSRC.out (by omega) ?_); intro v' w' hoff hgrow hat; have HG := Lib.hid (show _ ∧ _ ∧ _ from ⟨hoff, hgrow, hat⟩); obtain ⟨A2, c2, rfl⟩ := hoff.form; clear hoff hgrow hat)
      have hlr : rest.length + pb.length = (rest ++ pb).length := List.length_append.symm
      rw [hlr]
      have HS := Lib.hid (show ∃ j' : Nat, rest ++ pb = (m ++ pb).drop (64 * j') ∧ 64 * j' ≤ (m ++ pb).length ∧ St I (orow 5 (.slice A2 (rest ++ pb).length c2) (rest ++ pb) :: bk q 106 (st5 (blocksN (m ++ pb) j')) :: bk r 61 zero20 :: M) w' from by
        obtain ⟨h1, h2, h3, hs⟩ := HH2.out
        obtain ⟨g1, g2, g3⟩ := HG.out
        refine ⟨j, ?_, ?_, ?_⟩
        · rw [List.drop_append_of_le_length h3, ← h2]
        · rw [List.length_append]; omega
        · rw [blocksN_app _ _ _ h3]
          exact hs.ogrown g2 g1 g3)
      have hrb : (rest ++ pb).length ≤ 140737488355264 := by rw [List.length_append]; omega
      clear hlr
      generalize rest ++ pb = rs at HS hrb ⊢
      go_wp2_with fail
      go_loopw [4] (fun rv wr2 => ∃ (A : Option Addr) (c : Nat) (rs : List UInt8), rv = .slice A rs.length c ∧ rs.length ≤ 140737488355264 ∧ Hid (∃ j' : Nat, rs = (m ++ pb).drop (64 * j') ∧ 64 * j' ≤ (m ++ pb).length ∧ St I (orow 5 (.slice A rs.length c) rs :: bk q 106 (st5 (blocksN (m ++ pb) j')) :: bk r 61 zero20 :: M) wr2)) (fun rv _ => match rv with | .slice _ n _ => n | _ => 0)
      case atStart => exact ⟨A2, c2, rs, rfl, hrb, HS⟩
      case round =>
        obtain ⟨A3, c3, rs3, rfl, hrb3, HH3⟩ := hrel
        clear HS
        by_cases h64 : 64 ≤ rs3.length
        rotate_left
        · have h64' : (rs3.length : Int) < 64 := by omega
          clear h64
          go_wp2
          go_roundw
          case rel =>
            obtain ⟨j', h1, h2, h3⟩ := HH3.out
            exact ⟨i + 1, A3, c3, j', n + pb.length, rs3, by omega, by go_num, rfl, by go_num, hnm, by omega, Lib.hid (by rw [HMI.out]; exact ⟨by rw [HH2.out.1, List.length_append], h1, h2, h3⟩)⟩
          case measure => simp [intOf]; omega
        have h64' : (64 : Int) ≤ rs3.length := by omega
        obtain ⟨j', h1, h2, hs⟩ := HH3.out
        obtain ⟨g, o, rfl, -, hrd⟩ := orow_reads (I := I) (M := bk r 61 zero20 :: M) (show offRow _ 5 (.slice A3 rs3.length c3) rs3 from hs.head) h64
        have HC := Lib.hid (blockP I _ _ q g o rs3.length c3 (blocksN (m ++ pb) j') (rs3.take 64) hs.swap1 hrd (by rw [List.length_take]; omega) h64 (by omega))
        have HJ := Lib.hid (show rs3 = (m ++ pb).drop (64 * j') ∧ 64 * j' ≤ (m ++ pb).length from ⟨h1, h2⟩)
        clear hs hrd h1 h2 HH3
        go_wp2_with fail
        go_at_call 70
        refine HC.out.mono ?_
        rintro e w4 ⟨_, _, _, rfl, _, hs4, rfl, rfl⟩
        have HS4 := Lib.hid (hs4.swap1.ocut (k := 64) h64)
        clear hs4 HC
        go_wp2
        go_roundw
        case rel =>
          refine ⟨if c3 = 64 then some ⟨g, o, none⟩ else some ⟨g, o + 64, none⟩, c3 - 64, rs3.drop 64, by rw [List.length_drop], by rw [List.length_drop]; omega, Lib.hid ⟨j' + 1, ?_, ?_, ?_⟩⟩
          · rw [HJ.out.1, List.drop_drop]
            congr 1
          · have := congrArg List.length HJ.out.1
            rw [List.length_drop] at this
            omega
          · have h := HS4.out
            have ha : (some (⟨g, o, none⟩ : Addr)).map (·.add 64) = some ⟨g, o + 64, none⟩ := by simp [add_at]
            rw [ha, ← List.length_drop] at h
            have hb : blocksN (m ++ pb) (j' + 1) = blockS (blocksN (m ++ pb) j') (rs3.take 64) := by
              show blockS _ (((m ++ pb).drop (64 * j')).take 64) = _
              rw [← HJ.out.1]
            rw [hb]
            exact h
        case measure =>
          show rs3.length - 64 < rs3.length
          omega
  case rest =>
  obtain ⟨A, c, j, rest, rfl, rfl, hr64, HH⟩ := hcut
  obtain ⟨m, hm⟩ : ∃ m, m = (ps.map (·.2)).flatten := ⟨_, rfl⟩
  rw [← hm] at HH hlen ⊢
  have HMM := Lib.hid hm
  clear hm HPS HCE HS
  have HS := Lib.hid (show SumSt I M q r A c rest m wc from ⟨j, HH.out.1, HH.out.2.1, HH.out.2.2⟩)
  obtain ⟨i5, hi5, hz0, hz1, hz2⟩ := info_parts info5
  have HOF := Lib.hid (HS.out.grow (.cells #[bv 128] 5)).off
  have HSRC := Lib.hid (HS.out.one 128)
  clear HH
  go_upto_block 4 with (at_builtin; (refine wpList_append_off _ rfl _ _ 22 22 rfl 5 i5 (.int .u8 0) Tryd.underlying22 hi5 hz0 hz1 hz2 rfl _ rest rfl HOF.out _ [128] rfl HSRC.out (by show rest.length + 1 ≤ _; omega) ?_); intro v' w' hoff hgrow hat; have HG := Lib.hid ((HS.out.grow (.cells #[bv 128] 5)).app hoff hgrow hat); clear hoff hgrow hat)
  obtain ⟨A1, c1, rfl, h1⟩ := HG.out
  have HS1 := Lib.hid h1
  clear h1 HG HOF HSRC HS
  have hrl : (rest ++ [128]).length = rest.length + 1 := by simp
  generalize hrs : rest ++ [(128 : UInt8)] = rs at HS1 hrl ⊢
  clear hrs
  have hz : zerosFor m.length < 64 := Nat.mod_lt _ (by omega)
  have HZ := Lib.hid (show (m.length + 1 + zerosFor m.length) % 64 = 56 from by unfold zerosFor; omega)
  have HRM := Lib.hid (show rs.length % 64 = (m.length + 1) % 64 from by
    obtain ⟨j', e1, e2, _⟩ := HS1.out
    have := congrArg List.length e1
    rw [List.length_drop, List.length_append, List.length_singleton] at this
    rw [List.length_append, List.length_singleton] at e2
    omega)
  have HRL := Lib.hid hrl
  clear hrl
  go_cut [4] (fun rv wx => ∃ (A : Option Addr) (c : Nat) (rs : List UInt8), rv = .slice A rs.length c ∧ rs.length ≤ 200 ∧ Hid (SumSt I M q r A c rs (m ++ 128 :: List.replicate (zerosFor m.length) 0) wx))
  case first =>
    go_wp2_with fail
    go_loopw [4] (fun rv wr => ∃ (A : Option Addr) (c : Nat) (rt : List UInt8) (k : Nat), rv = .slice A rt.length c ∧ rt.length = rs.length + k ∧ k ≤ zerosFor m.length ∧ Hid (SumSt I M q r A c rt (m ++ 128 :: List.replicate k 0) wr)) (fun rv _ => 200 - (match rv with | .slice _ n _ => n | _ => 0))
    case atStart => exact ⟨A1, c1, rs, 0, rfl, rfl, Nat.zero_le _, HS1⟩
    case round =>
      obtain ⟨A2, c2, rt, k, rfl, hrt, hkz, HSr⟩ := hrel
      clear HS1
      have hrt2 : rt.length ≤ 130 := by have := HRL.out; omega
      have HRT := Lib.hid hrt
      by_cases h56 : rt.length % 64 = 56
      · have hb1 : ((rt.length : Int) % 64 != 56) = false := by simp; omega
        have hb2 : ((rt.length : Int).tmod 64 != 56) = false := by rw [Int.tmod_eq_emod_of_nonneg (by omega)]; exact hb1
        have hb3 : (rt.length : Int) % 64 = 56 := by omega
        obtain rfl : k = zerosFor m.length := by
          have e1 := HZ.out
          have e2 := HRM.out
          omega
        clear h56 hrt
        go_wp2
        go_meet
        exact ⟨A2, c2, rt, rfl, by omega, HSr⟩
      · have hb1 : ((rt.length : Int) % 64 != 56) = true := by simp; omega
        have hb2 : ((rt.length : Int).tmod 64 != 56) = true := by rw [Int.tmod_eq_emod_of_nonneg (by omega)]; exact hb1
        have hkz2 : k < zerosFor m.length := by
          have e1 := HZ.out
          have e2 := HRM.out
          rcases Nat.lt_or_ge k (zerosFor m.length) with h | h
          · exact h
          · exfalso
            have : k = zerosFor m.length := by omega
            subst this
            omega
        have HOF := Lib.hid (HSr.out.grow (.cells #[bv 0] 5)).off
        have HSRC := Lib.hid (HSr.out.one 0)
        clear h56 hrt
        go_wp2_with (at_builtin; (refine wpList_append_off _ rfl _ _ 22 22 rfl 5 i5 (.int .u8 0) Tryd.underlying22 hi5 hz0 hz1 hz2 rfl _ rt rfl HOF.out _ [0] rfl HSRC.out (by show rt.length + 1 ≤ _; omega) ?_); intro v' w' hoff hgrow hat; have HG := Lib.hid ((HSr.out.grow (.cells #[bv 0] 5)).app hoff hgrow hat); clear hoff hgrow hat; obtain ⟨A3, c3, rfl, h3⟩ := HG.out; have HG3 := Lib.hid h3; clear h3 HG)
        go_roundw
        case rel =>
          refine ⟨A3, c3, rt ++ [0], k + 1, by rw [List.length_append]; rfl, by have := HRT.out; simp; omega, by omega, Lib.hid ?_⟩
          have e : m ++ 128 :: List.replicate (k + 1) 0 = (m ++ 128 :: List.replicate k 0) ++ [(0 : UInt8)] := by rw [List.replicate_succ']; simp
          rw [e]
          exact HG3.out
        case measure =>
          show 200 - (rt.length + 1) < 200 - rt.length
          omega
  case rest =>
  obtain ⟨A2, c2, rs2, rfl, hr200, HS2⟩ := hcut
  clear HS1 HZ HRM HRL hr64 hz
  obtain ⟨P, hP⟩ : ∃ P, P = m ++ 128 :: List.replicate (zerosFor m.length) 0 := ⟨_, rfl⟩
  rw [← hP] at HS2
  have HP := Lib.hid hP
  clear hP
  go_upto_block 6 with fail
  go_cut [4] (fun rv wx => ∃ (A : Option Addr) (c : Nat) (rs : List UInt8), rv = .slice A rs.length c ∧ rs.length ≤ 300 ∧ Hid (SumSt I M q r A c rs (P ++ len8 m.length) wx))
  case first =>
    go_wp2_with fail
    go_loopw [4, 44] (fun rv iv wr => ∃ (i : Nat) (A : Option Addr) (c : Nat) (rt : List UInt8), i ≤ 8 ∧ iv = .int .i64 i ∧ rv = .slice A rt.length c ∧ rt.length ≤ 200 + i ∧ Hid (SumSt I M q r A c rt (P ++ (len8 m.length).take i) wr)) (fun _ iv _ => 8 - (intOf iv).toNat)
    case atStart => exact ⟨0, A2, c2, rs2, by omega, rfl, rfl, hr200, by rw [List.take_zero, List.append_nil]; exact HS2⟩
    case round =>
      obtain ⟨i, A3, c3, rt, hi, rfl, rfl, hrt, HSr⟩ := hrel
      clear HS2
      by_cases h8 : i < 8
      rotate_left
      · obtain rfl : i = 8 := by omega
        clear h8
        have HE := Lib.hid (show SumSt I M q r A3 c3 rt (P ++ len8 m.length) wr by have := HSr.out; rwa [List.take_of_length_le (by rw [len8_len]; exact Nat.le_refl _)] at this)
        go_wp2
        go_meet
        exact ⟨A3, c3, rt, rfl, by omega, HE⟩
      have hc8 : i = 0 ∨ i = 1 ∨ i = 2 ∨ i = 3 ∨ i = 4 ∨ i = 5 ∨ i = 6 ∨ i = 7 := by omega
      clear hi h8
      rcases hc8 with rfl | rfl | rfl | rfl | rfl | rfl | rfl | rfl
      · obtain ⟨b, hb⟩ : ∃ b, b = UInt8.ofNat (m.length * 8 % 18446744073709551616 / 72057594037927936) := ⟨_, rfl⟩
        have HT := Lib.hid (show (len8 m.length).take 1 = (len8 m.length).take 0 ++ [b] by rw [hb]; rfl)
        have hbn : (m.length : Int) * 8 / 72057594037927936 % 256 = (b.toNat : Int) := by rw [hb, UInt8.toNat_ofNat']; omega
        have hbw : IntKind.u8.wrap ((m.length : Int) * 8 / 72057594037927936) = (b.toNat : Int) := (u8_mod _).trans hbn
        have HOF := Lib.hid (HSr.out.grow (.cells #[bv b] 5)).off
        have HSRC := Lib.hid (HSr.out.one b)
        clear hb
        go_wp2_with (at_builtin; (refine wpList_append_off _ rfl _ _ 22 22 rfl 5 i5 (.int .u8 0) Tryd.underlying22 hi5 hz0 hz1 hz2 rfl _ rt rfl HOF.out _ [b] rfl HSRC.out (by show rt.length + 1 ≤ _; omega) ?_); intro v' w' hoff hgrow hat; have HG := Lib.hid ((HSr.out.grow (.cells #[bv b] 5)).app hoff hgrow hat); clear hoff hgrow hat; obtain ⟨A4, c4, rfl, h4⟩ := HG.out; have HG4 := Lib.hid h4; clear h4 HG)
        go_roundw
        case rel => exact ⟨1, A4, c4, rt ++ [b], by omega, by go_num, by rw [List.length_append]; rfl, by rw [List.length_append]; show rt.length + 1 ≤ _; omega, Lib.hid (by rw [HT.out, ← List.append_assoc]; exact HG4.out)⟩
        case measure => simp [intOf]
      · obtain ⟨b, hb⟩ : ∃ b, b = UInt8.ofNat (m.length * 8 % 18446744073709551616 / 281474976710656) := ⟨_, rfl⟩
        have HT := Lib.hid (show (len8 m.length).take 2 = (len8 m.length).take 1 ++ [b] by rw [hb]; rfl)
        have hbn : (m.length : Int) * 8 / 281474976710656 % 256 = (b.toNat : Int) := by rw [hb, UInt8.toNat_ofNat']; omega
        have hbw : IntKind.u8.wrap ((m.length : Int) * 8 / 281474976710656) = (b.toNat : Int) := (u8_mod _).trans hbn
        have HOF := Lib.hid (HSr.out.grow (.cells #[bv b] 5)).off
        have HSRC := Lib.hid (HSr.out.one b)
        clear hb
        go_wp2_with (at_builtin; (refine wpList_append_off _ rfl _ _ 22 22 rfl 5 i5 (.int .u8 0) Tryd.underlying22 hi5 hz0 hz1 hz2 rfl _ rt rfl HOF.out _ [b] rfl HSRC.out (by show rt.length + 1 ≤ _; omega) ?_); intro v' w' hoff hgrow hat; have HG := Lib.hid ((HSr.out.grow (.cells #[bv b] 5)).app hoff hgrow hat); clear hoff hgrow hat; obtain ⟨A4, c4, rfl, h4⟩ := HG.out; have HG4 := Lib.hid h4; clear h4 HG)
        go_roundw
        case rel => exact ⟨2, A4, c4, rt ++ [b], by omega, by go_num, by rw [List.length_append]; rfl, by rw [List.length_append]; show rt.length + 1 ≤ _; omega, Lib.hid (by rw [HT.out, ← List.append_assoc]; exact HG4.out)⟩
        case measure => simp [intOf]
      · obtain ⟨b, hb⟩ : ∃ b, b = UInt8.ofNat (m.length * 8 % 18446744073709551616 / 1099511627776) := ⟨_, rfl⟩
        have HT := Lib.hid (show (len8 m.length).take 3 = (len8 m.length).take 2 ++ [b] by rw [hb]; rfl)
        have hbn : (m.length : Int) * 8 / 1099511627776 % 256 = (b.toNat : Int) := by rw [hb, UInt8.toNat_ofNat']; omega
        have hbw : IntKind.u8.wrap ((m.length : Int) * 8 / 1099511627776) = (b.toNat : Int) := (u8_mod _).trans hbn
        have HOF := Lib.hid (HSr.out.grow (.cells #[bv b] 5)).off
        have HSRC := Lib.hid (HSr.out.one b)
        clear hb
        go_wp2_with (at_builtin; (refine wpList_append_off _ rfl _ _ 22 22 rfl 5 i5 (.int .u8 0) Tryd.underlying22 hi5 hz0 hz1 hz2 rfl _ rt rfl HOF.out _ [b] rfl HSRC.out (by show rt.length + 1 ≤ _; omega) ?_); intro v' w' hoff hgrow hat; have HG := Lib.hid ((HSr.out.grow (.cells #[bv b] 5)).app hoff hgrow hat); clear hoff hgrow hat; obtain ⟨A4, c4, rfl, h4⟩ := HG.out; have HG4 := Lib.hid h4; clear h4 HG)
        go_roundw
        case rel => exact ⟨3, A4, c4, rt ++ [b], by omega, by go_num, by rw [List.length_append]; rfl, by rw [List.length_append]; show rt.length + 1 ≤ _; omega, Lib.hid (by rw [HT.out, ← List.append_assoc]; exact HG4.out)⟩
        case measure => simp [intOf]
      · obtain ⟨b, hb⟩ : ∃ b, b = UInt8.ofNat (m.length * 8 % 18446744073709551616 / 4294967296) := ⟨_, rfl⟩
        have HT := Lib.hid (show (len8 m.length).take 4 = (len8 m.length).take 3 ++ [b] by rw [hb]; rfl)
        have hbn : (m.length : Int) * 8 / 4294967296 % 256 = (b.toNat : Int) := by rw [hb, UInt8.toNat_ofNat']; omega
        have hbw : IntKind.u8.wrap ((m.length : Int) * 8 / 4294967296) = (b.toNat : Int) := (u8_mod _).trans hbn
        have HOF := Lib.hid (HSr.out.grow (.cells #[bv b] 5)).off
        have HSRC := Lib.hid (HSr.out.one b)
        clear hb
        go_wp2_with (at_builtin; (refine wpList_append_off _ rfl _ _ 22 22 rfl 5 i5 (.int .u8 0) Tryd.underlying22 hi5 hz0 hz1 hz2 rfl _ rt rfl HOF.out _ [b] rfl HSRC.out (by show rt.length + 1 ≤ _; omega) ?_); intro v' w' hoff hgrow hat; have HG := Lib.hid ((HSr.out.grow (.cells #[bv b] 5)).app hoff hgrow hat); clear hoff hgrow hat; obtain ⟨A4, c4, rfl, h4⟩ := HG.out; have HG4 := Lib.hid h4; clear h4 HG)
        go_roundw
        case rel => exact ⟨4, A4, c4, rt ++ [b], by omega, by go_num, by rw [List.length_append]; rfl, by rw [List.length_append]; show rt.length + 1 ≤ _; omega, Lib.hid (by rw [HT.out, ← List.append_assoc]; exact HG4.out)⟩
        case measure => simp [intOf]
      · obtain ⟨b, hb⟩ : ∃ b, b = UInt8.ofNat (m.length * 8 % 18446744073709551616 / 16777216) := ⟨_, rfl⟩
        have HT := Lib.hid (show (len8 m.length).take 5 = (len8 m.length).take 4 ++ [b] by rw [hb]; rfl)
        have hbn : (m.length : Int) * 8 / 16777216 % 256 = (b.toNat : Int) := by rw [hb, UInt8.toNat_ofNat']; omega
        have hbw : IntKind.u8.wrap ((m.length : Int) * 8 / 16777216) = (b.toNat : Int) := (u8_mod _).trans hbn
        have HOF := Lib.hid (HSr.out.grow (.cells #[bv b] 5)).off
        have HSRC := Lib.hid (HSr.out.one b)
        clear hb
        go_wp2_with (at_builtin; (refine wpList_append_off _ rfl _ _ 22 22 rfl 5 i5 (.int .u8 0) Tryd.underlying22 hi5 hz0 hz1 hz2 rfl _ rt rfl HOF.out _ [b] rfl HSRC.out (by show rt.length + 1 ≤ _; omega) ?_); intro v' w' hoff hgrow hat; have HG := Lib.hid ((HSr.out.grow (.cells #[bv b] 5)).app hoff hgrow hat); clear hoff hgrow hat; obtain ⟨A4, c4, rfl, h4⟩ := HG.out; have HG4 := Lib.hid h4; clear h4 HG)
        go_roundw
        case rel => exact ⟨5, A4, c4, rt ++ [b], by omega, by go_num, by rw [List.length_append]; rfl, by rw [List.length_append]; show rt.length + 1 ≤ _; omega, Lib.hid (by rw [HT.out, ← List.append_assoc]; exact HG4.out)⟩
        case measure => simp [intOf]
      · obtain ⟨b, hb⟩ : ∃ b, b = UInt8.ofNat (m.length * 8 % 18446744073709551616 / 65536) := ⟨_, rfl⟩
        have HT := Lib.hid (show (len8 m.length).take 6 = (len8 m.length).take 5 ++ [b] by rw [hb]; rfl)
        have hbn : (m.length : Int) * 8 / 65536 % 256 = (b.toNat : Int) := by rw [hb, UInt8.toNat_ofNat']; omega
        have hbw : IntKind.u8.wrap ((m.length : Int) * 8 / 65536) = (b.toNat : Int) := (u8_mod _).trans hbn
        have HOF := Lib.hid (HSr.out.grow (.cells #[bv b] 5)).off
        have HSRC := Lib.hid (HSr.out.one b)
        clear hb
        go_wp2_with (at_builtin; (refine wpList_append_off _ rfl _ _ 22 22 rfl 5 i5 (.int .u8 0) Tryd.underlying22 hi5 hz0 hz1 hz2 rfl _ rt rfl HOF.out _ [b] rfl HSRC.out (by show rt.length + 1 ≤ _; omega) ?_); intro v' w' hoff hgrow hat; have HG := Lib.hid ((HSr.out.grow (.cells #[bv b] 5)).app hoff hgrow hat); clear hoff hgrow hat; obtain ⟨A4, c4, rfl, h4⟩ := HG.out; have HG4 := Lib.hid h4; clear h4 HG)
        go_roundw
        case rel => exact ⟨6, A4, c4, rt ++ [b], by omega, by go_num, by rw [List.length_append]; rfl, by rw [List.length_append]; show rt.length + 1 ≤ _; omega, Lib.hid (by rw [HT.out, ← List.append_assoc]; exact HG4.out)⟩
        case measure => simp [intOf]
      · obtain ⟨b, hb⟩ : ∃ b, b = UInt8.ofNat (m.length * 8 % 18446744073709551616 / 256) := ⟨_, rfl⟩
        have HT := Lib.hid (show (len8 m.length).take 7 = (len8 m.length).take 6 ++ [b] by rw [hb]; rfl)
        have hbn : (m.length : Int) * 8 / 256 % 256 = (b.toNat : Int) := by rw [hb, UInt8.toNat_ofNat']; omega
        have hbw : IntKind.u8.wrap ((m.length : Int) * 8 / 256) = (b.toNat : Int) := (u8_mod _).trans hbn
        have HOF := Lib.hid (HSr.out.grow (.cells #[bv b] 5)).off
        have HSRC := Lib.hid (HSr.out.one b)
        clear hb
        go_wp2_with (at_builtin; (refine wpList_append_off _ rfl _ _ 22 22 rfl 5 i5 (.int .u8 0) Tryd.underlying22 hi5 hz0 hz1 hz2 rfl _ rt rfl HOF.out _ [b] rfl HSRC.out (by show rt.length + 1 ≤ _; omega) ?_); intro v' w' hoff hgrow hat; have HG := Lib.hid ((HSr.out.grow (.cells #[bv b] 5)).app hoff hgrow hat); clear hoff hgrow hat; obtain ⟨A4, c4, rfl, h4⟩ := HG.out; have HG4 := Lib.hid h4; clear h4 HG)
        go_roundw
        case rel => exact ⟨7, A4, c4, rt ++ [b], by omega, by go_num, by rw [List.length_append]; rfl, by rw [List.length_append]; show rt.length + 1 ≤ _; omega, Lib.hid (by rw [HT.out, ← List.append_assoc]; exact HG4.out)⟩
        case measure => simp [intOf]
      · obtain ⟨b, hb⟩ : ∃ b, b = UInt8.ofNat (m.length * 8 % 18446744073709551616 / 1) := ⟨_, rfl⟩
        have HT := Lib.hid (show (len8 m.length).take 8 = (len8 m.length).take 7 ++ [b] by rw [hb]; rfl)
        have hbn : (m.length : Int) * 8 % 256 = (b.toNat : Int) := by rw [hb, UInt8.toNat_ofNat']; omega
        have hbw : IntKind.u8.wrap ((m.length : Int) * 8) = (b.toNat : Int) := (u8_mod _).trans hbn
        have HOF := Lib.hid (HSr.out.grow (.cells #[bv b] 5)).off
        have HSRC := Lib.hid (HSr.out.one b)
        clear hb
        go_wp2_with (at_builtin; (refine wpList_append_off _ rfl _ _ 22 22 rfl 5 i5 (.int .u8 0) Tryd.underlying22 hi5 hz0 hz1 hz2 rfl _ rt rfl HOF.out _ [b] rfl HSRC.out (by show rt.length + 1 ≤ _; omega) ?_); intro v' w' hoff hgrow hat; have HG := Lib.hid ((HSr.out.grow (.cells #[bv b] 5)).app hoff hgrow hat); clear hoff hgrow hat; obtain ⟨A4, c4, rfl, h4⟩ := HG.out; have HG4 := Lib.hid h4; clear h4 HG)
        go_roundw
        case rel => exact ⟨8, A4, c4, rt ++ [b], by omega, by go_num, by rw [List.length_append]; rfl, by rw [List.length_append]; show rt.length + 1 ≤ _; omega, Lib.hid (by rw [HT.out, ← List.append_assoc]; exact HG4.out)⟩
        case measure => simp [intOf]
  case rest =>
  obtain ⟨A4, c4, rs4, rfl, hr300, HS3⟩ := hcut
  clear HS2
  have HPD := Lib.hid (show P ++ len8 m.length = padS m by rw [HP.out]; unfold padS; simp)
  rw [HPD.out] at HS3
  have HS4 : Hid (∃ j : Nat, rs4 = (padS m).drop (64 * j) ∧ 64 * j ≤ (padS m).length ∧ St I (orow 5 (.slice A4 rs4.length c4) rs4 :: bk q 106 (st5 (blocksN (padS m) j)) :: bk r 61 zero20 :: M) wc) := HS3
  have HPL := Lib.hid (padS_len m)
  clear HS3
  go_upto_block 8 with fail
  go_cut [4] (fun rv wx => ∃ (A : Option Addr) (c : Nat) (rs : List UInt8), rv = .slice A rs.length c ∧ Hid (St I (orow 5 (.slice A rs.length c) rs :: bk q 106 (st5 (shaS m)) :: bk r 61 zero20 :: M) wx))
  case first =>
    go_wp2_with fail
    go_loopw [4] (fun rv wr => ∃ (A : Option Addr) (c : Nat) (rs : List UInt8), rv = .slice A rs.length c ∧ rs.length ≤ 300 ∧ Hid (∃ j : Nat, rs = (padS m).drop (64 * j) ∧ 64 * j ≤ (padS m).length ∧ St I (orow 5 (.slice A rs.length c) rs :: bk q 106 (st5 (blocksN (padS m) j)) :: bk r 61 zero20 :: M) wr)) (fun rv _ => match rv with | .slice _ n _ => n | _ => 0)
    case atStart => exact ⟨A4, c4, rs4, rfl, hr300, HS4⟩
    case round =>
      obtain ⟨A5, c5, rs5, rfl, hr5, HH5⟩ := hrel
      clear HS4
      by_cases hz5 : rs5.length = 0
      · have hz5' : (rs5.length : Int) ≤ 0 := by omega
        have HE := Lib.hid (show St I (orow 5 (.slice A5 rs5.length c5) rs5 :: bk q 106 (st5 (shaS m)) :: bk r 61 zero20 :: M) _ from by
          obtain ⟨j', e1, e2, hs⟩ := HH5.out
          have e3 := congrArg List.length e1
          rw [List.length_drop] at e3
          have e4 := HPL.out
          have e5 : (padS m).length / 64 = j' := by omega
          unfold shaS
          rw [e5]
          exact hs)
        clear hz5
        go_wp2
        go_meet
        exact ⟨A5, c5, rs5, rfl, HE⟩
      have hz5' : (0 : Int) < rs5.length := by omega
      obtain ⟨j', e1, e2, hs⟩ := HH5.out
      have e3 := congrArg List.length e1
      rw [List.length_drop] at e3
      have e4 := HPL.out
      have h64 : 64 ≤ rs5.length := by omega
      have h64' : (64 : Int) ≤ rs5.length := by omega
      obtain ⟨g, o, rfl, -, hrd⟩ := orow_reads (I := I) (M := bk r 61 zero20 :: M) (show offRow _ 5 (.slice A5 rs5.length c5) rs5 from hs.head) h64
      have HC := Lib.hid (blockP I _ _ q g o rs5.length c5 (blocksN (padS m) j') (rs5.take 64) hs.swap1 hrd (by rw [List.length_take]; omega) h64 (by omega))
      have HJ := Lib.hid (show rs5 = (padS m).drop (64 * j') ∧ 64 * j' ≤ (padS m).length from ⟨e1, e2⟩)
      clear hs hrd e1 e2 e3 e4 HH5 hz5
      go_wp2_with fail
      go_at_call 70
      refine HC.out.mono ?_
      rintro e w4 ⟨_, _, _, rfl, _, hs4, rfl, rfl⟩
      have HS6 := Lib.hid (hs4.swap1.ocut (k := 64) h64)
      clear hs4 HC
      go_wp2
      go_roundw
      case rel =>
        refine ⟨if c5 = 64 then some ⟨g, o, none⟩ else some ⟨g, o + 64, none⟩, c5 - 64, rs5.drop 64, by rw [List.length_drop], by rw [List.length_drop]; omega, Lib.hid ⟨j' + 1, ?_, ?_, ?_⟩⟩
        · rw [HJ.out.1, List.drop_drop]
          congr 1
        · have := congrArg List.length HJ.out.1
          rw [List.length_drop] at this
          omega
        · have h := HS6.out
          have ha : (some (⟨g, o, none⟩ : Addr)).map (·.add 64) = some ⟨g, o + 64, none⟩ := by simp [add_at]
          rw [ha, ← List.length_drop] at h
          have hb : blocksN (padS m) (j' + 1) = blockS (blocksN (padS m) j') (rs5.take 64) := by
            show blockS _ (((padS m).drop (64 * j')).take 64) = _
            rw [← HJ.out.1]
          rw [hb]
          exact h
      case measure =>
        show rs5.length - 64 < rs5.length
        omega
  case rest =>
  obtain ⟨A6, c6, rs6, rfl, HS6⟩ := hcut
  clear HS4
  obtain ⟨T, hT⟩ : ∃ s, s = shaS m := ⟨_, rfl⟩
  rw [← hT] at HS6
  have HTT := Lib.hid hT
  clear hT HPD HPL HP
  obtain ⟨x, hx⟩ : ∃ x, x = wc.heap.size := ⟨_, rfl⟩
  have hs := HS6.out.drop.alloc 61 zero20
  rw [← hx] at hs
  clear HS6
  go_upto_block 10 with fail
  rw [← hx]
  clear hx
  generalize World.alloc _ _ = W6 at hs ⊢
  have HS7 := Lib.hid (show St I (bk x 61 (outC T 0) :: bk q 106 (st5 T) :: bk r 61 zero20 :: M) W6 from hs)
  clear hs
  go_wp2_with fail
  go_loopw [65] (fun iv wr => ∃ i : Nat, i ≤ 20 ∧ iv = .int .i64 i ∧ Hid (St I (bk x 61 (outC T i) :: bk q 106 (st5 T) :: bk r 61 zero20 :: M) wr)) (fun iv _ => 20 - (intOf iv).toNat)
  case atStart => exact ⟨0, by omega, rfl, HS7⟩
  case round =>
    obtain ⟨i, hi, rfl, HSr⟩ := hrel
    clear HS7
    by_cases h20 : i < 20
    rotate_left
    · obtain rfl : i = 20 := by omega
      clear h20
      have ho20 : outC T 20 = (bvs (outS T)).toArray := by rfl
      have hs := HSr.out
      rw [ho20] at hs
      have hbx : wr.heap[x]? = some (.cells (bvs (outS T)).toArray 61 (0, 0)) := hs.head
      have hbr : wr.heap[r]? = some (.cells zero20 61 (0, 0)) := hs.at 2 rfl
      have hi61 : (Tryd.prog.info? 61).map (·.size) = some (bvs (outS T)).toArray.size := by rw [info61]; rfl
      have HS8 := Lib.hid (hs.setR2 (bvs (outS T)).toArray)
      have ho1 : ((bvs (outS T)).toArray).all (·.oneCell') = true := by rw [List.all_toArray]; exact List.all_eq_true.2 (bvs_one _)
      have hos : zero20.size = (bvs (outS T)).toArray.size := rfl
      obtain ⟨O, hO⟩ : ∃ O, O = (bvs (outS T)).toArray := ⟨_, rfl⟩
      rw [← hO] at hbx hi61 HS8 ho1 hos
      have HO := Lib.hid hO
      clear hs ho20 HSr hO
      go_wp2_with (first | refine wpList_load_row rfl 61 (.tmp 9) rfl x rfl 61 _ (0, 0) _ hbx Tryd.underlying61 rfl hi61 ?_ | refine wpList_store_row rfl 61 (.tmp 2) (.tmp 81) rfl r O rfl rfl 61 _ hbr hi61 hos ho1 ?_)
      refine bodyPost_ret (results_cell_row (p := 2) (ty := 61) rfl _ _ r 61 O (0, 0) _ rfl (HS8.out.at 2 rfl) Tryd.underlying61 rfl hi61) rfl ?_
      exact Ret.mk (.refl I) HS8.out.drop.drop.drop ⟨rfl, by rw [HO.out, HTT.out, HMM.out], rfl⟩
    have hc : i = 0 ∨ i = 1 ∨ i = 2 ∨ i = 3 ∨ i = 4 ∨ i = 5 ∨ i = 6 ∨ i = 7 ∨ i = 8 ∨ i = 9 ∨ i = 10 ∨ i = 11 ∨ i = 12 ∨ i = 13 ∨ i = 14 ∨ i = 15 ∨ i = 16 ∨ i = 17 ∨ i = 18 ∨ i = 19 := by omega
    clear hi h20
    rcases hc with rfl | rfl | rfl | rfl | rfl | rfl | rfl | rfl | rfl | rfl | rfl | rfl | rfl | rfl | rfl | rfl | rfl | rfl | rfl | rfl
    · obtain ⟨b, hb⟩ : ∃ b, b = UInt8.ofNat (T.a.toNat / 16777216) := ⟨_, rfl⟩
      have HT := Lib.hid (show (outC T 0).setIfInBounds 0 (bv b) = outC T 1 by rw [hb]; rfl)
      have hbn : (wi T.a / 16777216) % 256 = (b.toNat : Int) := by rw [hb, UInt8.toNat_ofNat']; unfold wi; omega
      have hbw : IntKind.u8.wrap (wi T.a / 16777216) = (b.toNat : Int) := (u8_mod _).trans hbn
      clear hb
      have y0 := Blk.cell (show Blk wr q 106 (st5 T) from HSr.out.at 1 rfl) 0
      have y1 : wr.cell? ⟨q, 0, none⟩ = some (wv T.a) := y0
      obtain ⟨hcX, hfX, hlX⟩ := Blk.all HSr.out.head
      have y2 : wr.cell? ⟨x, 0, none⟩ = some (.int .u8 0) := hcX 0
      clear y0 hcX
      go_wp2
      go_roundw
      case rel => exact ⟨1, by omega, by go_num, Lib.hid (by have h := HSr.out.set 0 (bv b); rw [HT.out] at h; exact h)⟩
      case measure => simp [intOf]
    · obtain ⟨b, hb⟩ : ∃ b, b = UInt8.ofNat (T.a.toNat / 65536) := ⟨_, rfl⟩
      have HT := Lib.hid (show (outC T 1).setIfInBounds 1 (bv b) = outC T 2 by rw [hb]; rfl)
      have hbn : (wi T.a / 65536) % 256 = (b.toNat : Int) := by rw [hb, UInt8.toNat_ofNat']; unfold wi; omega
      have hbw : IntKind.u8.wrap (wi T.a / 65536) = (b.toNat : Int) := (u8_mod _).trans hbn
      clear hb
      have y0 := Blk.cell (show Blk wr q 106 (st5 T) from HSr.out.at 1 rfl) 0
      have y1 : wr.cell? ⟨q, 0, none⟩ = some (wv T.a) := y0
      obtain ⟨hcX, hfX, hlX⟩ := Blk.all HSr.out.head
      have y2 : wr.cell? ⟨x, 1, none⟩ = some (.int .u8 0) := hcX 1
      clear y0 hcX
      go_wp2
      go_roundw
      case rel => exact ⟨2, by omega, by go_num, Lib.hid (by have h := HSr.out.set 1 (bv b); rw [HT.out] at h; exact h)⟩
      case measure => simp [intOf]
    · obtain ⟨b, hb⟩ : ∃ b, b = UInt8.ofNat (T.a.toNat / 256) := ⟨_, rfl⟩
      have HT := Lib.hid (show (outC T 2).setIfInBounds 2 (bv b) = outC T 3 by rw [hb]; rfl)
      have hbn : (wi T.a / 256) % 256 = (b.toNat : Int) := by rw [hb, UInt8.toNat_ofNat']; unfold wi; omega
      have hbw : IntKind.u8.wrap (wi T.a / 256) = (b.toNat : Int) := (u8_mod _).trans hbn
      clear hb
      have y0 := Blk.cell (show Blk wr q 106 (st5 T) from HSr.out.at 1 rfl) 0
      have y1 : wr.cell? ⟨q, 0, none⟩ = some (wv T.a) := y0
      obtain ⟨hcX, hfX, hlX⟩ := Blk.all HSr.out.head
      have y2 : wr.cell? ⟨x, 2, none⟩ = some (.int .u8 0) := hcX 2
      clear y0 hcX
      go_wp2
      go_roundw
      case rel => exact ⟨3, by omega, by go_num, Lib.hid (by have h := HSr.out.set 2 (bv b); rw [HT.out] at h; exact h)⟩
      case measure => simp [intOf]
    · obtain ⟨b, hb⟩ : ∃ b, b = UInt8.ofNat (T.a.toNat) := ⟨_, rfl⟩
      have HT := Lib.hid (show (outC T 3).setIfInBounds 3 (bv b) = outC T 4 by rw [hb]; rfl)
      have hbn : (wi T.a) % 256 = (b.toNat : Int) := by rw [hb, UInt8.toNat_ofNat']; unfold wi; omega
      have hbw : IntKind.u8.wrap (wi T.a) = (b.toNat : Int) := (u8_mod _).trans hbn
      clear hb
      have y0 := Blk.cell (show Blk wr q 106 (st5 T) from HSr.out.at 1 rfl) 0
      have y1 : wr.cell? ⟨q, 0, none⟩ = some (wv T.a) := y0
      obtain ⟨hcX, hfX, hlX⟩ := Blk.all HSr.out.head
      have y2 : wr.cell? ⟨x, 3, none⟩ = some (.int .u8 0) := hcX 3
      clear y0 hcX
      go_wp2
      go_roundw
      case rel => exact ⟨4, by omega, by go_num, Lib.hid (by have h := HSr.out.set 3 (bv b); rw [HT.out] at h; exact h)⟩
      case measure => simp [intOf]
    · obtain ⟨b, hb⟩ : ∃ b, b = UInt8.ofNat (T.b.toNat / 16777216) := ⟨_, rfl⟩
      have HT := Lib.hid (show (outC T 4).setIfInBounds 4 (bv b) = outC T 5 by rw [hb]; rfl)
      have hbn : (wi T.b / 16777216) % 256 = (b.toNat : Int) := by rw [hb, UInt8.toNat_ofNat']; unfold wi; omega
      have hbw : IntKind.u8.wrap (wi T.b / 16777216) = (b.toNat : Int) := (u8_mod _).trans hbn
      clear hb
      have y0 := Blk.cell (show Blk wr q 106 (st5 T) from HSr.out.at 1 rfl) 1
      have y1 : wr.cell? ⟨q, 1, none⟩ = some (wv T.b) := y0
      obtain ⟨hcX, hfX, hlX⟩ := Blk.all HSr.out.head
      have y2 : wr.cell? ⟨x, 4, none⟩ = some (.int .u8 0) := hcX 4
      clear y0 hcX
      go_wp2
      go_roundw
      case rel => exact ⟨5, by omega, by go_num, Lib.hid (by have h := HSr.out.set 4 (bv b); rw [HT.out] at h; exact h)⟩
      case measure => simp [intOf]
    · obtain ⟨b, hb⟩ : ∃ b, b = UInt8.ofNat (T.b.toNat / 65536) := ⟨_, rfl⟩
      have HT := Lib.hid (show (outC T 5).setIfInBounds 5 (bv b) = outC T 6 by rw [hb]; rfl)
      have hbn : (wi T.b / 65536) % 256 = (b.toNat : Int) := by rw [hb, UInt8.toNat_ofNat']; unfold wi; omega
      have hbw : IntKind.u8.wrap (wi T.b / 65536) = (b.toNat : Int) := (u8_mod _).trans hbn
      clear hb
      have y0 := Blk.cell (show Blk wr q 106 (st5 T) from HSr.out.at 1 rfl) 1
      have y1 : wr.cell? ⟨q, 1, none⟩ = some (wv T.b) := y0
      obtain ⟨hcX, hfX, hlX⟩ := Blk.all HSr.out.head
      have y2 : wr.cell? ⟨x, 5, none⟩ = some (.int .u8 0) := hcX 5
      clear y0 hcX
      go_wp2
      go_roundw
      case rel => exact ⟨6, by omega, by go_num, Lib.hid (by have h := HSr.out.set 5 (bv b); rw [HT.out] at h; exact h)⟩
      case measure => simp [intOf]
    · obtain ⟨b, hb⟩ : ∃ b, b = UInt8.ofNat (T.b.toNat / 256) := ⟨_, rfl⟩
      have HT := Lib.hid (show (outC T 6).setIfInBounds 6 (bv b) = outC T 7 by rw [hb]; rfl)
      have hbn : (wi T.b / 256) % 256 = (b.toNat : Int) := by rw [hb, UInt8.toNat_ofNat']; unfold wi; omega
      have hbw : IntKind.u8.wrap (wi T.b / 256) = (b.toNat : Int) := (u8_mod _).trans hbn
      clear hb
      have y0 := Blk.cell (show Blk wr q 106 (st5 T) from HSr.out.at 1 rfl) 1
      have y1 : wr.cell? ⟨q, 1, none⟩ = some (wv T.b) := y0
      obtain ⟨hcX, hfX, hlX⟩ := Blk.all HSr.out.head
      have y2 : wr.cell? ⟨x, 6, none⟩ = some (.int .u8 0) := hcX 6
      clear y0 hcX
      go_wp2
      go_roundw
      case rel => exact ⟨7, by omega, by go_num, Lib.hid (by have h := HSr.out.set 6 (bv b); rw [HT.out] at h; exact h)⟩
      case measure => simp [intOf]
    · obtain ⟨b, hb⟩ : ∃ b, b = UInt8.ofNat (T.b.toNat) := ⟨_, rfl⟩
      have HT := Lib.hid (show (outC T 7).setIfInBounds 7 (bv b) = outC T 8 by rw [hb]; rfl)
      have hbn : (wi T.b) % 256 = (b.toNat : Int) := by rw [hb, UInt8.toNat_ofNat']; unfold wi; omega
      have hbw : IntKind.u8.wrap (wi T.b) = (b.toNat : Int) := (u8_mod _).trans hbn
      clear hb
      have y0 := Blk.cell (show Blk wr q 106 (st5 T) from HSr.out.at 1 rfl) 1
      have y1 : wr.cell? ⟨q, 1, none⟩ = some (wv T.b) := y0
      obtain ⟨hcX, hfX, hlX⟩ := Blk.all HSr.out.head
      have y2 : wr.cell? ⟨x, 7, none⟩ = some (.int .u8 0) := hcX 7
      clear y0 hcX
      go_wp2
      go_roundw
      case rel => exact ⟨8, by omega, by go_num, Lib.hid (by have h := HSr.out.set 7 (bv b); rw [HT.out] at h; exact h)⟩
      case measure => simp [intOf]
    · obtain ⟨b, hb⟩ : ∃ b, b = UInt8.ofNat (T.c.toNat / 16777216) := ⟨_, rfl⟩
      have HT := Lib.hid (show (outC T 8).setIfInBounds 8 (bv b) = outC T 9 by rw [hb]; rfl)
      have hbn : (wi T.c / 16777216) % 256 = (b.toNat : Int) := by rw [hb, UInt8.toNat_ofNat']; unfold wi; omega
      have hbw : IntKind.u8.wrap (wi T.c / 16777216) = (b.toNat : Int) := (u8_mod _).trans hbn
      clear hb
      have y0 := Blk.cell (show Blk wr q 106 (st5 T) from HSr.out.at 1 rfl) 2
      have y1 : wr.cell? ⟨q, 2, none⟩ = some (wv T.c) := y0
      obtain ⟨hcX, hfX, hlX⟩ := Blk.all HSr.out.head
      have y2 : wr.cell? ⟨x, 8, none⟩ = some (.int .u8 0) := hcX 8
      clear y0 hcX
      go_wp2
      go_roundw
      case rel => exact ⟨9, by omega, by go_num, Lib.hid (by have h := HSr.out.set 8 (bv b); rw [HT.out] at h; exact h)⟩
      case measure => simp [intOf]
    · obtain ⟨b, hb⟩ : ∃ b, b = UInt8.ofNat (T.c.toNat / 65536) := ⟨_, rfl⟩
      have HT := Lib.hid (show (outC T 9).setIfInBounds 9 (bv b) = outC T 10 by rw [hb]; rfl)
      have hbn : (wi T.c / 65536) % 256 = (b.toNat : Int) := by rw [hb, UInt8.toNat_ofNat']; unfold wi; omega
      have hbw : IntKind.u8.wrap (wi T.c / 65536) = (b.toNat : Int) := (u8_mod _).trans hbn
      clear hb
      have y0 := Blk.cell (show Blk wr q 106 (st5 T) from HSr.out.at 1 rfl) 2
      have y1 : wr.cell? ⟨q, 2, none⟩ = some (wv T.c) := y0
      obtain ⟨hcX, hfX, hlX⟩ := Blk.all HSr.out.head
      have y2 : wr.cell? ⟨x, 9, none⟩ = some (.int .u8 0) := hcX 9
      clear y0 hcX
      go_wp2
      go_roundw
      case rel => exact ⟨10, by omega, by go_num, Lib.hid (by have h := HSr.out.set 9 (bv b); rw [HT.out] at h; exact h)⟩
      case measure => simp [intOf]
    · obtain ⟨b, hb⟩ : ∃ b, b = UInt8.ofNat (T.c.toNat / 256) := ⟨_, rfl⟩
      have HT := Lib.hid (show (outC T 10).setIfInBounds 10 (bv b) = outC T 11 by rw [hb]; rfl)
      have hbn : (wi T.c / 256) % 256 = (b.toNat : Int) := by rw [hb, UInt8.toNat_ofNat']; unfold wi; omega
      have hbw : IntKind.u8.wrap (wi T.c / 256) = (b.toNat : Int) := (u8_mod _).trans hbn
      clear hb
      have y0 := Blk.cell (show Blk wr q 106 (st5 T) from HSr.out.at 1 rfl) 2
      have y1 : wr.cell? ⟨q, 2, none⟩ = some (wv T.c) := y0
      obtain ⟨hcX, hfX, hlX⟩ := Blk.all HSr.out.head
      have y2 : wr.cell? ⟨x, 10, none⟩ = some (.int .u8 0) := hcX 10
      clear y0 hcX
      go_wp2
      go_roundw
      case rel => exact ⟨11, by omega, by go_num, Lib.hid (by have h := HSr.out.set 10 (bv b); rw [HT.out] at h; exact h)⟩
      case measure => simp [intOf]
    · obtain ⟨b, hb⟩ : ∃ b, b = UInt8.ofNat (T.c.toNat) := ⟨_, rfl⟩
      have HT := Lib.hid (show (outC T 11).setIfInBounds 11 (bv b) = outC T 12 by rw [hb]; rfl)
      have hbn : (wi T.c) % 256 = (b.toNat : Int) := by rw [hb, UInt8.toNat_ofNat']; unfold wi; omega
      have hbw : IntKind.u8.wrap (wi T.c) = (b.toNat : Int) := (u8_mod _).trans hbn
      clear hb
      have y0 := Blk.cell (show Blk wr q 106 (st5 T) from HSr.out.at 1 rfl) 2
      have y1 : wr.cell? ⟨q, 2, none⟩ = some (wv T.c) := y0
      obtain ⟨hcX, hfX, hlX⟩ := Blk.all HSr.out.head
      have y2 : wr.cell? ⟨x, 11, none⟩ = some (.int .u8 0) := hcX 11
      clear y0 hcX
      go_wp2
      go_roundw
      case rel => exact ⟨12, by omega, by go_num, Lib.hid (by have h := HSr.out.set 11 (bv b); rw [HT.out] at h; exact h)⟩
      case measure => simp [intOf]
    · obtain ⟨b, hb⟩ : ∃ b, b = UInt8.ofNat (T.d.toNat / 16777216) := ⟨_, rfl⟩
      have HT := Lib.hid (show (outC T 12).setIfInBounds 12 (bv b) = outC T 13 by rw [hb]; rfl)
      have hbn : (wi T.d / 16777216) % 256 = (b.toNat : Int) := by rw [hb, UInt8.toNat_ofNat']; unfold wi; omega
      have hbw : IntKind.u8.wrap (wi T.d / 16777216) = (b.toNat : Int) := (u8_mod _).trans hbn
      clear hb
      have y0 := Blk.cell (show Blk wr q 106 (st5 T) from HSr.out.at 1 rfl) 3
      have y1 : wr.cell? ⟨q, 3, none⟩ = some (wv T.d) := y0
      obtain ⟨hcX, hfX, hlX⟩ := Blk.all HSr.out.head
      have y2 : wr.cell? ⟨x, 12, none⟩ = some (.int .u8 0) := hcX 12
      clear y0 hcX
      go_wp2
      go_roundw
      case rel => exact ⟨13, by omega, by go_num, Lib.hid (by have h := HSr.out.set 12 (bv b); rw [HT.out] at h; exact h)⟩
      case measure => simp [intOf]
    · obtain ⟨b, hb⟩ : ∃ b, b = UInt8.ofNat (T.d.toNat / 65536) := ⟨_, rfl⟩
      have HT := Lib.hid (show (outC T 13).setIfInBounds 13 (bv b) = outC T 14 by rw [hb]; rfl)
      have hbn : (wi T.d / 65536) % 256 = (b.toNat : Int) := by rw [hb, UInt8.toNat_ofNat']; unfold wi; omega
      have hbw : IntKind.u8.wrap (wi T.d / 65536) = (b.toNat : Int) := (u8_mod _).trans hbn
      clear hb
      have y0 := Blk.cell (show Blk wr q 106 (st5 T) from HSr.out.at 1 rfl) 3
      have y1 : wr.cell? ⟨q, 3, none⟩ = some (wv T.d) := y0
      obtain ⟨hcX, hfX, hlX⟩ := Blk.all HSr.out.head
      have y2 : wr.cell? ⟨x, 13, none⟩ = some (.int .u8 0) := hcX 13
      clear y0 hcX
      go_wp2
      go_roundw
      case rel => exact ⟨14, by omega, by go_num, Lib.hid (by have h := HSr.out.set 13 (bv b); rw [HT.out] at h; exact h)⟩
      case measure => simp [intOf]
    · obtain ⟨b, hb⟩ : ∃ b, b = UInt8.ofNat (T.d.toNat / 256) := ⟨_, rfl⟩
      have HT := Lib.hid (show (outC T 14).setIfInBounds 14 (bv b) = outC T 15 by rw [hb]; rfl)
      have hbn : (wi T.d / 256) % 256 = (b.toNat : Int) := by rw [hb, UInt8.toNat_ofNat']; unfold wi; omega
      have hbw : IntKind.u8.wrap (wi T.d / 256) = (b.toNat : Int) := (u8_mod _).trans hbn
      clear hb
      have y0 := Blk.cell (show Blk wr q 106 (st5 T) from HSr.out.at 1 rfl) 3
      have y1 : wr.cell? ⟨q, 3, none⟩ = some (wv T.d) := y0
      obtain ⟨hcX, hfX, hlX⟩ := Blk.all HSr.out.head
      have y2 : wr.cell? ⟨x, 14, none⟩ = some (.int .u8 0) := hcX 14
      clear y0 hcX
      go_wp2
      go_roundw
      case rel => exact ⟨15, by omega, by go_num, Lib.hid (by have h := HSr.out.set 14 (bv b); rw [HT.out] at h; exact h)⟩
      case measure => simp [intOf]
    · obtain ⟨b, hb⟩ : ∃ b, b = UInt8.ofNat (T.d.toNat) := ⟨_, rfl⟩
      have HT := Lib.hid (show (outC T 15).setIfInBounds 15 (bv b) = outC T 16 by rw [hb]; rfl)
      have hbn : (wi T.d) % 256 = (b.toNat : Int) := by rw [hb, UInt8.toNat_ofNat']; unfold wi; omega
      have hbw : IntKind.u8.wrap (wi T.d) = (b.toNat : Int) := (u8_mod _).trans hbn
      clear hb
      have y0 := Blk.cell (show Blk wr q 106 (st5 T) from HSr.out.at 1 rfl) 3
      have y1 : wr.cell? ⟨q, 3, none⟩ = some (wv T.d) := y0
      obtain ⟨hcX, hfX, hlX⟩ := Blk.all HSr.out.head
      have y2 : wr.cell? ⟨x, 15, none⟩ = some (.int .u8 0) := hcX 15
      clear y0 hcX
      go_wp2
      go_roundw
      case rel => exact ⟨16, by omega, by go_num, Lib.hid (by have h := HSr.out.set 15 (bv b); rw [HT.out] at h; exact h)⟩
      case measure => simp [intOf]
    · obtain ⟨b, hb⟩ : ∃ b, b = UInt8.ofNat (T.e.toNat / 16777216) := ⟨_, rfl⟩
      have HT := Lib.hid (show (outC T 16).setIfInBounds 16 (bv b) = outC T 17 by rw [hb]; rfl)
      have hbn : (wi T.e / 16777216) % 256 = (b.toNat : Int) := by rw [hb, UInt8.toNat_ofNat']; unfold wi; omega
      have hbw : IntKind.u8.wrap (wi T.e / 16777216) = (b.toNat : Int) := (u8_mod _).trans hbn
      clear hb
      have y0 := Blk.cell (show Blk wr q 106 (st5 T) from HSr.out.at 1 rfl) 4
      have y1 : wr.cell? ⟨q, 4, none⟩ = some (wv T.e) := y0
      obtain ⟨hcX, hfX, hlX⟩ := Blk.all HSr.out.head
      have y2 : wr.cell? ⟨x, 16, none⟩ = some (.int .u8 0) := hcX 16
      clear y0 hcX
      go_wp2
      go_roundw
      case rel => exact ⟨17, by omega, by go_num, Lib.hid (by have h := HSr.out.set 16 (bv b); rw [HT.out] at h; exact h)⟩
      case measure => simp [intOf]
    · obtain ⟨b, hb⟩ : ∃ b, b = UInt8.ofNat (T.e.toNat / 65536) := ⟨_, rfl⟩
      have HT := Lib.hid (show (outC T 17).setIfInBounds 17 (bv b) = outC T 18 by rw [hb]; rfl)
      have hbn : (wi T.e / 65536) % 256 = (b.toNat : Int) := by rw [hb, UInt8.toNat_ofNat']; unfold wi; omega
      have hbw : IntKind.u8.wrap (wi T.e / 65536) = (b.toNat : Int) := (u8_mod _).trans hbn
      clear hb
      have y0 := Blk.cell (show Blk wr q 106 (st5 T) from HSr.out.at 1 rfl) 4
      have y1 : wr.cell? ⟨q, 4, none⟩ = some (wv T.e) := y0
      obtain ⟨hcX, hfX, hlX⟩ := Blk.all HSr.out.head
      have y2 : wr.cell? ⟨x, 17, none⟩ = some (.int .u8 0) := hcX 17
      clear y0 hcX
      go_wp2
      go_roundw
      case rel => exact ⟨18, by omega, by go_num, Lib.hid (by have h := HSr.out.set 17 (bv b); rw [HT.out] at h; exact h)⟩
      case measure => simp [intOf]
    · obtain ⟨b, hb⟩ : ∃ b, b = UInt8.ofNat (T.e.toNat / 256) := ⟨_, rfl⟩
      have HT := Lib.hid (show (outC T 18).setIfInBounds 18 (bv b) = outC T 19 by rw [hb]; rfl)
      have hbn : (wi T.e / 256) % 256 = (b.toNat : Int) := by rw [hb, UInt8.toNat_ofNat']; unfold wi; omega
      have hbw : IntKind.u8.wrap (wi T.e / 256) = (b.toNat : Int) := (u8_mod _).trans hbn
      clear hb
      have y0 := Blk.cell (show Blk wr q 106 (st5 T) from HSr.out.at 1 rfl) 4
      have y1 : wr.cell? ⟨q, 4, none⟩ = some (wv T.e) := y0
      obtain ⟨hcX, hfX, hlX⟩ := Blk.all HSr.out.head
      have y2 : wr.cell? ⟨x, 18, none⟩ = some (.int .u8 0) := hcX 18
      clear y0 hcX
      go_wp2
      go_roundw
      case rel => exact ⟨19, by omega, by go_num, Lib.hid (by have h := HSr.out.set 18 (bv b); rw [HT.out] at h; exact h)⟩
      case measure => simp [intOf]
    · obtain ⟨b, hb⟩ : ∃ b, b = UInt8.ofNat (T.e.toNat) := ⟨_, rfl⟩
      have HT := Lib.hid (show (outC T 19).setIfInBounds 19 (bv b) = outC T 20 by rw [hb]; rfl)
      have hbn : (wi T.e) % 256 = (b.toNat : Int) := by rw [hb, UInt8.toNat_ofNat']; unfold wi; omega
      have hbw : IntKind.u8.wrap (wi T.e) = (b.toNat : Int) := (u8_mod _).trans hbn
      clear hb
      have y0 := Blk.cell (show Blk wr q 106 (st5 T) from HSr.out.at 1 rfl) 4
      have y1 : wr.cell? ⟨q, 4, none⟩ = some (wv T.e) := y0
      obtain ⟨hcX, hfX, hlX⟩ := Blk.all HSr.out.head
      have y2 : wr.cell? ⟨x, 19, none⟩ = some (.int .u8 0) := hcX 19
      clear y0 hcX
      go_wp2
      go_roundw
      case rel => exact ⟨20, by omega, by go_num, Lib.hid (by have h := HSr.out.set 19 (bv b); rw [HT.out] at h; exact h)⟩
      case measure => simp [intOf]
end Go.Proofs.YtakgdmcekhafoaaDoor
