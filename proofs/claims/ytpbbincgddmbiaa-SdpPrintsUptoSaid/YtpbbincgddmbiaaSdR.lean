/- sdp.fits, sdp.write. -/
import Derived.Test.YtpbbincgddmbiaaSdQ
import Derived.Test.YtpbbincgddmbiaaSdO
import Derived.Test.YtpbbincgddmbiaaSdK
namespace Go.Proofs.Ytpbbincgddmbiaa
open Go.RowKit
set_option linter.unusedSimpArgs false

/-- texts that memory holds -/
def Shorts (l : List At) : Prop := ∀ a ∈ l, a.name.size ≤ maxLen ∧ a.value.size ≤ maxLen
set_option maxHeartbeats 1000000 in
theorem fit1P (I : Img) (M : List Res) (w : World) (n v : ByteArray) (hst : St I M w) (hn : n.size ≤ maxLen) (hv : v.size ≤ maxLen) :
    Calls Try.prog 41 #[.agg #[.string n, .string v]] w fun e w' => e = .returned (.bool (!goodB n v)) ∧ St I M w' := by
  have hs := hst.alloc 49 #[.string n, .string v]
  have hg := goodP2 n v hs hn hv
  obtain ⟨z0, z1, _, _, z3⟩ := Blk.two (show Blk _ w.heap.size 49 #[.string n, .string v] from hs.head)
  have HG := Lib.hid hg
  clear hg hs
  go_enter Try.func41, Try.ntmps41
  go_wp2_with (go_at_call 22; refine HG.out.mono ?_; rintro e w2 ⟨rfl, hs2⟩; have HS := Lib.hid hs2; clear hs2)
  go_returns
  exact ⟨rfl, HS.out.drop⟩
theorem eg41 : ∀ args w, (callFunc 41 args).run Try.prog w = .ok (.enter 41 args) w := enters_of Try.func41 (by kernel_rfl) rfl
set_option maxHeartbeats 1000000 in
theorem fit2P (I : Img) (M : List Res) (w : World) (vA : Value) (l : List At) (hst : St I M w) (ha : Attrs I vA l) (hl : l.length ≤ 64) (hz : Shorts l) :
    Calls Try.prog 45 #[vA, .func (.func 41) #[] #[]] w fun e w' => ∃ n : Int, e = .returned (.int .i64 n) ∧ -1 ≤ n ∧ n ≤ 64 ∧ decide (0 ≤ n) = !goodAs l ∧ St I M w' := by
  have HA := Lib.hid ha
  obtain ⟨A, c, rfl, _⟩ := ha
  have HS := Lib.hid hst
  clear hst
  have hmf := eg41
  go_enter Try.func45, Try.ntmps45
  go_upto_region 2 with fail
  go_loopw [8] (fun iv wr => ∃ k : Nat, k ≤ l.length ∧ iv = .int .i64 k ∧ Hid (goodAs (l.take k) = true ∧ St I M wr)) (fun iv _ => l.length - (intOf iv).toNat)
  case atStart => exact ⟨0, by omega, rfl, Lib.hid ⟨rfl, HS.out⟩⟩
  case round =>
    obtain ⟨k, hk, rfl, HSr⟩ := hrel
    clear HS
    by_cases hlt : k < l.length
    rotate_left
    · have hke : k = l.length := by omega
      have HE := Lib.hid (show goodAs l = true by have := HSr.out.1; rwa [hke, List.take_length] at this)
      have hgt : (l.length : Int) ≤ k := by omega
      clear hlt
      go_wp2
      go_returns
      exact ⟨-1, rfl, by omega, by omega, by rw [HE.out]; rfl, HSr.out.2⟩
    obtain ⟨g, o, c', e1, hc⟩ := HA.out.at (by omega)
    obtain ⟨e1, -, e3⟩ := Value.slice.inj e1
    subst e1 e3
    obtain ⟨y0, y1⟩ := hc M _ HSr.out.2 k hlt
    have hz1 := hz l[k] (List.getElem_mem hlt)
    have HTK := Lib.hid (show goodAs (l.take (k + 1)) = goodB l[k].name l[k].value by
      have := HSr.out.1
      unfold goodAs at this ⊢
      rw [List.take_succ_eq_append_getElem hlt, List.all_append, this]; simp)
    have HBD := Lib.hid (show goodB l[k].name l[k].value = false → goodAs l = false from fun h => by
      unfold goodAs
      rw [List.all_eq_false]
      exact ⟨l[k], List.getElem_mem hlt, by rw [h]; simp⟩)
    obtain ⟨a, hae⟩ : ∃ a, a = l[k] := ⟨_, rfl⟩
    rw [← hae] at y0 y1 HTK HBD hz1
    clear hc hae
    obtain ⟨an, av⟩ := a
    dsimp only at y0 y1 HTK HBD hz1
    have HG := Lib.hid (fit1P I M _ an av HSr.out.2 hz1.1 hz1.2)
    cases hb : goodB an av
    · rw [hb] at HG
      replace HBD := Lib.hid (HBD.out hb)
      go_wp2_with (go_at_fn 41; refine HG.out.mono ?_; clear HG; rintro e w2 ⟨rfl, hs2⟩; have HS2 := Lib.hid hs2; clear hs2)
      go_returns
      exact ⟨k, rfl, by omega, by omega, by rw [HBD.out, decide_eq_true (by omega)]; rfl, HS2.out⟩
    · rw [hb] at HG HTK
      go_wp2_with (go_at_fn 41; refine HG.out.mono ?_; clear HG; rintro e w2 ⟨rfl, hs2⟩; have HS2 := Lib.hid hs2; clear hs2)
      go_roundw
      case rel => exact ⟨k + 1, by omega, by go_num, Lib.hid ⟨HTK.out, HS2.out⟩⟩
      case measure => simp [intOf]; omega
set_option maxHeartbeats 1000000 in
theorem fit3P (I : Img) (M : List Res) (w : World) (vA : Value) (l : List At) (hst : St I M w) (ha : Attrs I vA l) (hl : l.length ≤ 64) (hz : Shorts l) :
    Calls Try.prog 40 #[vA, .func (.func 41) #[] #[]] w fun e w' => e = .returned (.bool (!goodAs l)) ∧ St I M w' := by
  have HC := Lib.hid (fit2P I M w vA l hst ha hl hz)
  obtain ⟨A, c, rfl, _⟩ := ha
  clear hst hz
  go_enter Try.func40, Try.ntmps40
  go_wp2_with (go_at_call 45; refine HC.out.mono ?_; clear HC; rintro e w2 ⟨n, rfl, h0, h1, hn, hs2⟩; have HN := Lib.hid hn; have HS2 := Lib.hid hs2; clear hs2 hn)
  go_returns
  exact ⟨ret_eq (by rw [← HN.out]; try rfl), HS2.out⟩
set_option maxHeartbeats 1000000 in
theorem fitsP (I : Img) (M : List Res) (w : World) (vA : Value) (l : List At) (hst : St I M w) (ha : Attrs I vA l) (hlm : l.length ≤ 140737488351232) (hz : Shorts l) :
    Calls Try.prog 27 #[vA] w fun e w' => e = .returned (.bool (fitsB l)) ∧ St I M w' := by
  by_cases hl : l.length ≤ 64
  · have HC := Lib.hid (fit3P I M w vA l hst ha hl hz)
    have hl' : (l.length : Int) ≤ 64 := by omega
    obtain ⟨A, c, rfl, _⟩ := ha
    have HF := Lib.hid (show fitsB l = goodAs l by unfold fitsB; rw [decide_eq_true hl]; rfl)
    obtain ⟨g, hg⟩ : ∃ g, g = goodAs l := ⟨_, rfl⟩
    rw [← hg] at HC HF
    clear hst hz hg hl
    go_enter Try.func27, Try.ntmps27
    go_wp2_with (go_at_call 40; refine HC.out.mono ?_; clear HC; rintro e w2 ⟨rfl, hs2⟩; have HS2 := Lib.hid hs2; clear hs2)
    go_returns
    exact ⟨ret_eq (by rw [HF.out]; simp), HS2.out⟩
  · have hl' : (64 : Int) < l.length := by omega
    have HS := Lib.hid hst
    obtain ⟨A, c, rfl, _⟩ := ha
    have HF := Lib.hid (show fitsB l = false by unfold fitsB; rw [decide_eq_false hl]; rfl)
    clear hst hz hl
    go_enter Try.func27, Try.ntmps27
    go_wp2
    go_returns
    exact ⟨ret_eq (by rw [HF.out]; try rfl), HS.out⟩
end Go.Proofs.Ytpbbincgddmbiaa
