/- rtcp.pieces: the iterator. -/
import Derived.Test.YtddopbbmgpnjjaaRcK
import Derived.Test.YtddopbbmgpnjjaaRg
import Derived.RangeFuncBound
import Derived.Shelf.RegionOpen
import Derived.OwnWalkIn
import Derived.TacticsInMore
import Derived.LoopNIn
import Derived.LoopIn
namespace Go.Proofs.Ytddopbbmgpnjjaa
open Go.RowKit
set_option linter.unusedSimpArgs false

/-- how far behind the next one of s -/
def dst (s x : Int) : Int := (x - s - 1) % 65536
def nearB (s x : Int) : Bool := decide (dst s x < 16)
theorem dst_wrap (s x : Int) : IntKind.u16.wrap (IntKind.u16.wrap (x - s) - 1) = dst s x := by
  rw [u16_mod, u16_mod]
  unfold dst
  omega
theorem dst_ok (s x : Int) : 0 ≤ dst s x ∧ dst s x ≤ 65535 := by unfold dst; omega
/-- a bit of a mask -/
def bitL (s x m : Int) : Int := bits BinOp.or IntKind.u16 m (IntKind.u16.wrap (2 ^ (dst s x).toNat))
def maskL (s : Int) (l : List Int) : Int := l.foldl (fun m x => if nearB s x then bitL s x m else m) 0
def farL (s : Int) (l : List Int) : List Int := l.filter fun x => !nearB s x
theorem farL_le (s : Int) (l : List Int) : (farL s l).length ≤ l.length := List.length_filter_le _ _
def piecesP : List Int → List (Int × Int)
  | [] => []
  | s :: r => (s, maskL s r) :: piecesP (farL s r)
termination_by l => l.length
decreasing_by
  have := farL_le s r
  simp
  omega
def pieceB (x : Int × Int) : List UInt8 := u16B x.1 ++ u16B x.2
def piecesB (l : List Int) : List UInt8 := (piecesP l).flatMap pieceB
theorem piecesB_nil : piecesB [] = [] := by unfold piecesB; rw [piecesP]; rfl
theorem piecesB_cons (s : Int) (r : List Int) : piecesB (s :: r) = pieceB (s, maskL s r) ++ piecesB (farL s r) := by unfold piecesB; rw [piecesP]; rfl
theorem maskL_snoc (s : Int) (l : List Int) (x : Int) : maskL s (l ++ [x]) = if nearB s x then bitL s x (maskL s l) else maskL s l := by simp [maskL]
theorem farL_snoc (s : Int) (l : List Int) (x : Int) : farL s (l ++ [x]) = if nearB s x then farL s l else farL s l ++ [x] := by
  unfold farL
  rw [List.filter_append]
  cases h : nearB s x <;> simp [h]
/-- what holds between two pieces: the image, what was written, what is left -/
abbrev PSt := Img × List UInt8 × Value
def XP (l D B p : Nat) (M : List Res) (o : Obj) (s : PSt) (W : World) : Prop := ∃ u, St s.1 (bk B 44 #[s.2.2] :: obk l o :: obk D (.deferred (some [])) :: row 5 1 u s.2.1.length (bvs s.2.1) :: bk p 60 #[u] :: M) W
def stepP (s : PSt) (x : Int × Int) : PSt := (s.1, s.2.1 ++ pieceB x, s.2.2)
def okP (s : PSt) (x : Int × Int) : Prop := s.2.1.length ≤ 140737488350000 ∧ (0 ≤ x.1 ∧ x.1 ≤ 65535) ∧ (0 ≤ x.2 ∧ x.2 ≤ 65535)
theorem bits_u16 (op : BinOp) (a b : Int) (h : op = .or) : 0 ≤ bits op IntKind.u16 a b ∧ bits op IntKind.u16 a b ≤ 65535 := by
  subst h
  show 0 ≤ IntKind.u16.wrap _ ∧ IntKind.u16.wrap _ ≤ 65535
  rw [u16_mod]
  omega
theorem maskL_ok (s : Int) (l : List Int) : 0 ≤ maskL s l ∧ maskL s l ≤ 65535 := by
  unfold maskL
  suffices h : ∀ (l : List Int) (m : Int), 0 ≤ m ∧ m ≤ 65535 → 0 ≤ l.foldl (fun m x => if nearB s x then bitL s x m else m) m ∧ l.foldl (fun m x => if nearB s x then bitL s x m else m) m ≤ 65535 from h l 0 (by decide)
  intro l
  induction l with
  | nil => intro m h; exact h
  | cons x r ih =>
    intro m h
    rw [List.foldl_cons]
    apply ih
    split
    · exact bits_u16 _ _ _ rfl
    · exact h
theorem piecesB_le : ∀ (n : Nat) (l : List Int), l.length ≤ n → (piecesB l).length ≤ 4 * l.length := by
  intro n
  induction n with
  | zero =>
    intro l h
    have e : l = [] := List.eq_nil_of_length_eq_zero (by omega)
    rw [e, piecesB_nil]
    simp
  | succ n ih =>
    intro l h
    rcases l with _ | ⟨s, r⟩
    · rw [piecesB_nil]; simp
    · rw [piecesB_cons, List.length_append, List.length_cons]
      have h1 := farL_le s r
      have h2 := ih (farL s r) (by rw [List.length_cons] at h; omega)
      have h3 : (pieceB (s, maskL s r)).length = 4 := rfl
      omega
theorem Cells.at0 {I : Img} {A : Option Addr} {v : Value} {cs : List Value} (h : Cells I A (v :: cs)) : ∃ g o, A = some ⟨g, o, none⟩ ∧ (∀ (M : List Res) (w : World), St I M w → w.cell? ⟨g, o, none⟩ = some v) ∧ Cells I (some ⟨g, o + 1, none⟩) cs := by
  obtain ⟨g, o, e, hc⟩ := h (by simp)
  refine ⟨g, o, e, fun M w hs => hs.cell (hc 0 (by simp)), fun h0 => ⟨g, o + 1, rfl, fun j hj => ?_⟩⟩
  have := hc (j + 1) (by simp; omega)
  rw [Nat.add_assoc, Nat.add_comm 1 j, this]
  rfl
theorem info42 : (Try.prog.info? 42).map (fun i => (i.zero, i.size, i.bytes)) = some (some (.int .u16 0), 1, 2) := by kernel_rfl
set_option maxRecDepth 100000 in
set_option maxHeartbeats 8000000 in
theorem pieces70 (I : Img) (M : List Res) (l D B p : Nat) (o : Obj) (l0 : List UInt8) (seqs : List Int) (A0 : Option Addr) (c0 : Nat) (hA : Cells I A0 (flat u16C seqs)) (hc0 : seqs.length ≤ c0) (hrng : ∀ x ∈ seqs, 0 ≤ x ∧ x ≤ 65535) (hln : seqs.length ≤ 17592186040000) (hl0 : l0.length ≤ 70368744170000)
    (hY : ∀ (s : PSt) (x : Int × Int) (W : World), XP l D B p M o s W → okP s x → YieldAt Fence.wide 0 Try.prog l #[.int .u16 x.1, .int .u16 x.2] W fun e W' => e = .returned (.bool true) ∧ XP l D B p M o (stepP s x) W')
    (w : World) (hX : XP l D B p M o (I, l0, .slice A0 seqs.length c0) w) :
    Calls Try.prog 70 #[.func (.yield l) #[] #[], .pointer (some ⟨B, 0, none⟩)] w fun e W' => (∃ v, e = .returned v) ∧ ∃ s : PSt, (I.le s.1 ∧ s.2.1 = l0 ++ piecesB seqs) ∧ XP l D B p M o s W' := by
  have H0 := Lib.hid (And.intro hA (And.intro hc0 (And.intro hrng (And.intro hln hX))))
  have HY := Lib.hid hY
  clear hA hc0 hrng hX hY
  go_enter Try.func70, Try.ntmps70
  go_wp2_with fail
  go_loopw [] (fun wr => Hid (∃ J bs A c L, I.le J ∧ Cells J A (flat u16C L) ∧ L.length ≤ c ∧ (∀ x ∈ L, 0 ≤ x ∧ x ≤ 65535) ∧ L.length ≤ 17592186040000 ∧ bs ++ piecesB L = l0 ++ piecesB seqs ∧ XP l D B p M o (J, bs, .slice A L.length c) wr)) (fun wr => lenAt wr B)
  case atStart => exact ⟨I, l0, A0, c0, seqs, .refl I, H0.out.1, H0.out.2.1, H0.out.2.2.1, H0.out.2.2.2.1, rfl, H0.out.2.2.2.2⟩
  case round =>
    obtain ⟨J, bs, A, c, L, hle, hcl, hlc, hrg, hll, hbs, u, hs⟩ := hrel.out
    clear hrel H0
    simp only at hs
    obtain ⟨hcB, hfB, hltB⟩ := (show Blk wr B 44 #[.slice A L.length c] from hs.at 0 rfl).one
    have hlen : lenAt wr B = L.length := by unfold lenAt; rw [hcB]
    have HLEN := Lib.hid hlen
    clear hlen
    rcases L with _ | ⟨s, r⟩
    · have HF := Lib.hid (show (∃ v, (Ending.returned (.tuple #[])) = .returned v) ∧ ∃ s : PSt, (I.le s.1 ∧ s.2.1 = l0 ++ piecesB seqs) ∧ XP l D B p M o s wr from ⟨⟨_, rfl⟩, (J, bs, .slice A 0 c), ⟨hle, by rw [← hbs, piecesB_nil, List.append_nil]⟩, u, hs⟩)
      clear hs hcl hbs hrg
      go_wp2
      go_returns
      exact HF.out
    · obtain ⟨g, o2, rfl, hcell⟩ := Cells.at0 (v := .int .u16 s) hcl
      have hcs := hcell.1 _ _ hs
      have hCT := Lib.hid hcell.2
      have HS := Lib.hid hs
      have HBS := Lib.hid hbs
      have HRG := Lib.hid hrg
      have hlr : r.length + 1 ≤ 17592186040000 := by simpa using hll
      have hlc2 : r.length + 1 ≤ c := by simpa using hlc
      have hlc3 : (r.length : Int) + 1 ≤ c := by omega
      rw [List.length_cons] at hcB HLEN
      clear hcell hs hbs hrg hll hlc hcl
      go_upto_block 2 with fail
      obtain ⟨A2, hA2⟩ : ∃ A2 : Option Addr, A2 = (if c = 1 then some ⟨g, o2, none⟩ else some ⟨g, o2 + 1, none⟩) := ⟨_, rfl⟩
      rw [← hA2]
      have HC2 : Hid (Cells J A2 (flat u16C r)) := Lib.hid (by
        rw [hA2]
        split
        · have hr : r = [] := by
            cases r
            · rfl
            · simp at hlc2; omega
          rw [hr]; exact Cells.nil _ _
        · exact hCT.out)
      have hmr : ∀ x ∈ r, 0 ≤ x ∧ x ≤ 65535 := fun x hx => HRG.out x (List.mem_cons_of_mem _ hx)
      have HMR := Lib.hid hmr
      clear hA2 hCT hmr
      go_cut [4, 5] (fun v4 v5 wx => v4 = .int .u16 (maskL s r) ∧ St J (row 42 1 v5 (farL s r).length (flat u16C (farL s r)) :: bk B 44 #[.slice (some ⟨g, o2, none⟩) (r.length + 1) c] :: obk l o :: obk D (.deferred (some [])) :: row 5 1 u bs.length (bvs bs) :: bk p 60 #[u] :: M) wx)
      case first =>
        go_wp2_with fail
        go_loopw [18, 4, 5] (fun iv v4 v5 wr => ∃ k : Nat, k ≤ r.length ∧ iv = .int .i64 k ∧ v4 = .int .u16 (maskL s (r.take k)) ∧ ∃ F c5, v5 = .slice F (farL s (r.take k)).length c5 ∧ Hid (St J (row 42 1 v5 (farL s (r.take k)).length (flat u16C (farL s (r.take k))) :: bk B 44 #[.slice (some ⟨g, o2, none⟩) (r.length + 1) c] :: obk l o :: obk D (.deferred (some [])) :: row 5 1 u bs.length (bvs bs) :: bk p 60 #[u] :: M) wr)) (fun iv _ _ _ => r.length - (intOf iv).toNat)
        case atStart => exact ⟨0, by omega, rfl, rfl, none, 0, rfl, HS.out.nil⟩
        case round =>
          obtain ⟨k, hk, rfl, rfl, F, c5, rfl, hh⟩ := hrel
          by_cases hlt : k < r.length
          · obtain ⟨gx, ox, rfl, hcx⟩ := flat_get (s := 1) (fun _ => rfl) HC2.out (by omega) (by decide)
            replace hcx : wr.cell? ⟨gx, ox + k, none⟩ = some (.int .u16 r[k]) := by
              have := hcx _ _ hh.out k hlt 0 (by decide)
              simpa using this
            have hmem := HMR.out _ (List.getElem_mem hlt)
            obtain ⟨x, hx⟩ : ∃ x, x = r[k] := ⟨_, rfl⟩
            have htk : r.take (k + 1) = r.take k ++ [x] := by rw [hx]; exact List.take_succ_eq_append_getElem hlt
            rw [← hx] at hcx hmem
            have hdw := dst_wrap s x
            have hdo := dst_ok s x
            have hfl : (farL s (r.take k)).length ≤ k := by have h1 := farL_le s (r.take k); rw [List.length_take] at h1; omega
            have HTK := Lib.hid htk
            have HH := Lib.hid hh.out
            clear htk hx hh
            have hM1 := maskL_snoc s (r.take k) x
            have hF1 := farL_snoc s (r.take k) x
            rw [← HTK.out] at hM1 hF1
            by_cases hb : dst s x < 16
            · have hn : nearB s x = true := decide_eq_true hb
              rw [hn, if_pos rfl] at hM1 hF1
              have HM := Lib.hid (And.intro hM1 hF1)
              clear hM1 hF1 hn hfl hmem
              go_wp2
              go_roundw
              case rel => exact ⟨k + 1, by omega, by go_num, by rw [HM.out.1]; rfl, F, c5, by rw [HM.out.2], by rw [HM.out.2]; exact HH.out⟩
              case measure => simp [intOf]; omega
            · have hn : nearB s x = false := decide_eq_false hb
              have hb2 : decide (dst s x < 16) = false := hn
              rw [hn] at hM1 hF1
              simp only [Bool.false_eq_true, if_false] at hM1 hF1
              have HM := Lib.hid (And.intro hM1 hF1)
              obtain ⟨i0, hi, hz0, hz1, hz2⟩ := info_parts info42
              have Hs := Lib.hid (HH.out.litSrcV (P := Try.prog) (size := 1) (n := 1) (t := 44) (e := 42) (cs := #[.int .u16 x]) rfl (by decide) Try.underlying44 (by simp [Value.oneCell']))
              have H := Lib.hid (HH.out.grow (.cells #[.int .u16 x] 42))
              have HFL := Lib.hid hfl
              clear hM1 hF1 hn hmem HH hfl hb
              go_wp2_with (at_builtin; refine wpList_append_src _ rfl _ _ 44 44 rfl 0 42 i0 (.int .u16 0) 1 2 Try.underlying44 hi hz0 hz1 hz2 rfl _ (farL s (r.take k)).length (flat u16C (farL s (r.take k))) rfl H.out.head _ _ _ rfl Hs.out (by have := HFL.out; unfold maxLen; omega) (by have := HFL.out; omega) (Nat.zero_le _) ?_)
              intro v' w3 hown hgrow hat
              have hown2 : w3.ownsRow 0 42 1 v' (farL s (r.take (k + 1))).length (flat u16C (farL s (r.take (k + 1)))) := by
                rw [HM.out.2, flat_append, List.length_append]
                exact hown
              have hs3 := H.out.grown hgrow hown2 (by simpa using hat)
              obtain ⟨F', c', rfl⟩ := own_form hown2
              have HS3 := Lib.hid hs3
              clear hown hown2 hgrow hat hs3 Hs H
              go_wp2
              go_roundw
              case rel => exact ⟨k + 1, by omega, by go_num, by rw [HM.out.1], F', c', rfl, HS3.out⟩
              case measure => simp [intOf]; omega
          · have hkk : k = r.length := by omega
            subst hkk
            have HF := Lib.hid (show maskL s (r.take r.length) = maskL s r ∧ St J (row 42 1 (.slice F (farL s (r.take r.length)).length c5) (farL s r).length (flat u16C (farL s r)) :: bk B 44 #[.slice (some ⟨g, o2, none⟩) (r.length + 1) c] :: obk l o :: obk D (.deferred (some [])) :: row 5 1 u bs.length (bvs bs) :: bk p 60 #[u] :: M) wr from by
              have h := hh.out
              rw [List.take_length] at h ⊢
              exact ⟨rfl, h⟩)
            clear hh
            go_wp2
            go_meet
            exact ⟨by rw [HF.out.1], HF.out.2⟩
      case rest =>
        obtain ⟨rfl, hs⟩ := hcut
        obtain ⟨F, c5, rfl⟩ := own_form (show wc.ownsRow 0 42 1 u5 _ _ from hs.head)
        have hcap := (own_cap hs.head).2
        obtain ⟨J2, hle2, hs2, hF⟩ := hs.freezeRow
        have hfl := farL_le s r
        have hok : okP (J2, bs, .slice (some ⟨g, o2, none⟩) (r.length + 1) c) (s, maskL s r) := by
          refine ⟨?_, HRG.out s (by simp), maskL_ok s r⟩
          have h1 := congrArg List.length HBS.out
          rw [List.length_append, List.length_append] at h1
          have h2 := piecesB_le _ seqs (Nat.le_refl _)
          show bs.length ≤ _
          omega
        have hy0 := HY.out (J2, bs, .slice (some ⟨g, o2, none⟩) (r.length + 1) c) (s, maskL s r) wc ⟨u, hs2⟩ hok
        simp only at hy0
        obtain ⟨fn, tmps, assign, body, hy, hR⟩ := hy0
        have HR := Lib.hid hR
        have HF := Lib.hid (And.intro (hle.trans hle2) (And.intro hF hcap))
        clear hs hs2 hF hcap hok hcB hfB hltB hcs HS hle hle2 hR
        go_upto_region 11 with fail
        refine (wpIn_wide (n := 0)).1 ?_
        gi_wp2
        refine ⟨rfl, HR.out.mono ?_⟩
        rintro e W' ⟨rfl, u', hs⟩
        obtain ⟨hcB, hfB, hltB⟩ := (show Blk W' B 44 #[.slice (some ⟨g, o2, none⟩) (r.length + 1) c] from hs.at 0 rfl).one
        have hs2 : St J2 (bk B 44 #[.slice F (farL s r).length c5] :: obk l o :: obk D (.deferred (some [])) :: row 5 1 u' (bs ++ pieceB (s, maskL s r)).length (bvs (bs ++ pieceB (s, maskL s r))) :: bk p 60 #[u'] :: M) (W'.setCell ⟨B, 0, none⟩ (.slice F (farL s r).length c5)) := hs.set 0 _
        have HS2 := Lib.hid hs2
        have HREL : Hid (bs ++ pieceB (s, maskL s r) ++ piecesB (farL s r) = l0 ++ piecesB seqs) := Lib.hid (by rw [List.append_assoc, ← piecesB_cons]; exact HBS.out)
        have HLN : Hid (lenAt (W'.setCell ⟨B, 0, none⟩ (.slice F (farL s r).length c5)) B = (farL s r).length) := Lib.hid (by
          obtain ⟨h, _, _⟩ := (show Blk _ B 44 #[.slice F (farL s r).length c5] from hs2.at 0 rfl).one
          unfold lenAt; rw [h])
        clear hs hs2 HR hy
        gi_wp2
        go_wp2
        go_roundw
        case rel => exact ⟨J2, bs ++ pieceB (s, maskL s r), F, c5, farL s r, HF.out.1, HF.out.2.1, HF.out.2.2, fun x hx => HRG.out x (List.mem_cons_of_mem _ (List.mem_filter.1 hx).1), by omega, HREL.out, u', HS2.out⟩
        case measure => rw [HLN.out, HLEN.out]; omega
end Go.Proofs.Ytddopbbmgpnjjaa
