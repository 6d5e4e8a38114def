/- ForwardWhole. -/
import Derived.Test.YtaemohkmingnpaaFwE
namespace Go.Proofs.Ytaemohkmingnpaa
open Go.RowKit
set_option linter.unusedSimpArgs false

def Yes (I : Img) (M : List Res) : Ending → World → Prop := Ret I (fun v _ M' => v = .bool true ∧ M' = M)
/-- a slice of slices of bytes -/
def Rows (I : Img) (A : Option Addr) (us : List (List UInt8)) : Prop :=
  0 < us.length → ∃ g o, A = some ⟨g, o, none⟩ ∧ ∀ i (h : i < us.length), ∃ B c, I.cell? ⟨g, o + i, none⟩ = some (.slice B us[i].length c) ∧ Byts I B us[i]
theorem beginsR2 (I : Img) (M : List Res) (w : World) (cd : ByteArray) (A : Option Addr) (c : Nat) (b : List UInt8) (b1 b2 : Bool) (h : beginsS cd b = (b1, b2)) (hst : St I M w) (hb : Byts I A b) (hl : b.length ≤ 140737488351232) :
    Calls Try.prog 10 #[.string cd, .slice A b.length c] w fun e w' => e = .returned (.tuple #[.bool b1, .bool b2]) ∧ ∃ n, w' = w.drewN n := by
  have := beginsR I M w cd A c b hst hb hl
  rw [h] at this
  exact this
theorem cell_lt {w : World} {g o : Nat} {v : Value} (h : w.cell? ⟨g, o, none⟩ = some v) : g < w.heap.size := by
  apply Classical.byContradiction
  intro hn
  rw [World.cell?, Array.getElem?_eq_none (by simpa using hn)] at h
  cases h
theorem picF_ok {f : Fl} (h : f.ok) (b : Bool) : 0 ≤ (picF f b).picture ∧ (picF f b).picture ≤ 32767 := by
  have := h.picture
  unfold picF
  split
  · show 0 ≤ (f.picture + 1) % 32768 ∧ (f.picture + 1) % 32768 ≤ 32767; omega
  · exact this
theorem picF_layer (f : Fl) (b : Bool) : (picF f b).layer = f.layer := by unfold picF; split <;> rfl
theorem picF_wanted (f : Fl) (b : Bool) : (picF f b).wanted = f.wanted := by unfold picF; split <;> rfl
theorem picF_broken (f : Fl) (b : Bool) : (picF f b).broken = f.broken := by unfold picF; split <;> rfl
theorem picF_codec (f : Fl) (b : Bool) : (picF f b).codec = f.codec := by unfold picF; split <;> rfl
theorem picF_clock (f : Fl) (b : Bool) : (picF f b).clock = f.clock := by unfold picF; split <;> rfl
theorem picF_offset (f : Fl) (b : Bool) : (picF f b).offset = f.offset := by unfold picF; split <;> rfl
theorem picF_typ (f : Fl) (b : Bool) : (picF f b).typ = f.typ := by unfold picF; split <;> rfl
theorem picF_source (f : Fl) (b : Bool) : (picF f b).source = f.source := by unfold picF; split <;> rfl
theorem sendS_ok {f : Fl} {P : Pk} {b : Bool} {now : Int} (h : f.ok) (hP : P.ok) (hn : -9223372036854775808 ≤ now ∧ now ≤ 9223372036854775807) : (sendS f P b now).ok := by
  obtain ⟨a1, a2, a3, a4, a5, a6, a7, a8, a9⟩ := h
  refine ⟨?_, ?_, ?_, ?_, ?_, hP.seq, ?_, ?_, ?_⟩
  · show _ ≤ (picF f b).clock ∧ (picF f b).clock ≤ _; rw [picF_clock]; exact a1
  · show 0 ≤ (f.seq + 1) % 65536 ∧ (f.seq + 1) % 65536 ≤ 65535; omega
  · show 0 ≤ (P.time + f.offset) % 4294967296 ∧ (P.time + f.offset) % 4294967296 ≤ 4294967295; omega
  · show _ ≤ (picF f b).wanted ∧ (picF f b).wanted ≤ _; rw [picF_wanted]; exact a4
  · show _ ≤ (picF f b).layer ∧ (picF f b).layer ≤ _; rw [picF_layer]; exact a5
  · show _ ≤ (if (!f.begun || decide (f.moment < now)) = true then now else f.moment) ∧ (if (!f.begun || decide (f.moment < now)) = true then now else f.moment) ≤ _
    split
    · exact hn
    · exact a7
  · show _ ≤ (picF f b).offset ∧ (picF f b).offset ≤ _; rw [picF_offset]; exact a8
  · show _ ≤ (picF f b).picture ∧ (picF f b).picture ≤ _; exact picF_ok ⟨a1, a2, a3, a4, a5, a6, a7, a8, a9⟩ b
structure WInv (cd : ByteArray) (seq : Int) (k : Nat) (bg : Bool) (f : Fl) : Prop where
  ok : f.ok
  codec : f.codec = cd
  wanted : f.wanted = 0
  at_ : (bg = false ∧ f.layer = -1) ∨ (bg = true ∧ f.layer = 0 ∧ f.broken = false ∧ (f.last + 1) % 65536 = (seq + k) % 65536)
theorem before_next {a b : Int} (_ : 0 ≤ a ∧ a ≤ 65535) (h : b = (a + 1) % 65536) : before a b = true := by
  unfold before
  subst h
  rw [u16_mod]
  rw [show ((a + 1) % 65536 - a) % 65536 = 1 by omega]
  rfl
theorem whole_step {cd : ByteArray} {seq : Int} {k : Nat} {bg : Bool} {f : Fl} (h : WInv cd seq k bg f) {P : Pk} {bs : List UInt8} {now : Int} {b1 b2 : Bool} (hb : beginsS cd bs = (b1, b2)) (hP : P.ok) (hn : -9223372036854775808 ≤ now ∧ now ≤ 9223372036854775807)
    (hs : P.seq = (seq + k) % 65536) : ∃ f1, ((bg || (b1 && b2)) = true ∧ pushS f 0 P bs now = (f1, true, false) ∧ WInv cd seq (k + 1) true (sendS f1 P b1 now)) ∨ ((bg || (b1 && b2)) = false ∧ pushS f 0 P bs now = (f1, false, true) ∧ WInv cd seq (k + 1) false f1) := by
  obtain ⟨hok, hc, hw, hat⟩ := h
  have hok2 := hok
  obtain ⟨a1, a2, a3, a4, a5, a6, a7, a8, a9⟩ := hok2
  have hfr : frS f bs = (b1 && b2) := by unfold frS; rw [hc, hb]
  rcases hat with ⟨rfl, hl⟩ | ⟨rfl, hl, hbr, hlast⟩
  · have e : pushS f 0 P bs now = if (b1 && b2) = true then ({ f with offset := (timeS f now - P.time) % 4294967296, layer := 0, broken := false }, true, false) else (f, false, true) := by
      unfold pushS
      rw [if_neg (by rw [hw]; omega), if_pos (by rw [hl]; omega), hfr]
    cases hx : (b1 && b2)
    · refine ⟨f, .inr ⟨rfl, by rw [e, hx]; rfl, hok, hc, hw, .inl ⟨rfl, hl⟩⟩⟩
    · obtain ⟨f1, hf1⟩ : ∃ f1 : Fl, f1 = { f with offset := (timeS f now - P.time) % 4294967296, layer := 0, broken := false } := ⟨_, rfl⟩
      rw [hx, if_pos rfl, ← hf1] at e
      have ho : f1.ok := by
        rw [hf1]
        exact ⟨a1, a2, a3, a4, by show (-1 : Int) ≤ 0 ∧ (0 : Int) ≤ _; omega, a6, a7, by show 0 ≤ (timeS f now - P.time) % 4294967296 ∧ (timeS f now - P.time) % 4294967296 ≤ _; omega, a9⟩
      refine ⟨f1, .inl ⟨rfl, e, sendS_ok ho hP hn, ?_, ?_, .inr ⟨rfl, ?_, ?_, ?_⟩⟩⟩
      · show (picF _ _).codec = _; rw [picF_codec, hf1]; exact hc
      · show (picF _ _).wanted = _; rw [picF_wanted, hf1]; exact hw
      · show (picF _ _).layer = _; rw [picF_layer, hf1]
      · show (picF _ _).broken = _; rw [picF_broken, hf1]
      · show (P.seq + 1) % 65536 = _; rw [hs]; push_cast; omega
  · have hq : P.seq = (f.last + 1) % 65536 := by rw [hs, hlast]
    have e : pushS f 0 P bs now = ({ f with broken := false }, true, false) := by
      unfold pushS
      rw [if_neg (by rw [hl]; omega), if_neg (by rw [hl]; omega), if_neg (by rw [before_next a6 hq]; simp), if_neg (by rw [hbr, ← hq]; simp)]
    refine ⟨_, .inl ⟨rfl, e, sendS_ok ⟨a1, a2, a3, a4, a5, a6, a7, a8, a9⟩ hP hn, ?_, ?_, .inr ⟨rfl, ?_, ?_, ?_⟩⟩⟩
    · show (picF _ _).codec = _; rw [picF_codec]; exact hc
    · show (picF _ _).wanted = _; rw [picF_wanted]; exact hw
    · show (picF _ _).layer = _; rw [picF_layer]; exact hl
    · show (picF _ _).broken = _; rw [picF_broken]
    · show (P.seq + 1) % 65536 = _; rw [hs]; push_cast; omega
theorem whole_start (seq : Int) (m : Md) (h : m.ok) : WInv m.codec seq 0 false (fl0 m) := ⟨fl0_ok h, rfl, rfl, .inl ⟨rfl, rfl⟩⟩
set_option maxRecDepth 8000 in
set_option maxHeartbeats 8000000 in
theorem law3 (I : Img) (M : List Res) (w : World) (m : Md) (seq : Int) (A : Option Addr) (c : Nat) (us : List (List UInt8)) (hst : St I M w) (hm : m.ok) (_hseq : 0 ≤ seq ∧ seq ≤ 65535) (hB : Rows I A us) (hlu : us.length ≤ 140737488351232) (hLU : ∀ u ∈ us, u.length ≤ 140737488351232) :
    Calls Try.prog 3 #[.agg (mdC m), .int .u16 seq, .slice A us.length c] w (Yes I M) := by
  have HB := Lib.hid hB
  have HLU := Lib.hid hLU
  have HI := Lib.hid (info_parts infoU8)
  have hst1 := hst.alloc 25 (mdC m)
  clear hst hB hLU
  go_enter Try.func3, Try.ntmps3
  go_wp2_with fail
  refine (awakeC I _ _ hst1).mono ?_
  clear hst1
  rintro e w1 ⟨_, J, _, rfl, hle, hst1, rfl, rfl⟩
  obtain ⟨hc3, hf3, hlt3⟩ := Blk.all hst1.head
  have H1 := Lib.hid hst1
  clear hst1
  go_wp2_with fail
  refine (beginC J _ _ m H1.out).mono ?_
  clear H1 hc3 hf3 hlt3
  rintro e w2 ⟨_, _, _, rfl, hle2, hst2, rfl, p, r, rfl, rfl⟩
  have H2 := Lib.hid (And.intro hle hst2.drop)
  clear hst2 hle2 hle
  go_wp2
  go_loopw [9, 25] (fun bgv iv wr => ∃ (k : Nat) (bg : Bool) (f : Fl), k ≤ us.length ∧ iv = .int .i64 k ∧ bgv = .bool bg ∧ Hid (WInv m.codec seq k bg f ∧ ∃ J, I.le J ∧ St J (bk p 64 (flC f) :: bk w.heap.size 25 (mdC m) :: M) wr)) (fun _ iv _ => us.length - (intOf iv).toNat)
  case atStart => exact ⟨0, false, fl0 m, by omega, rfl, rfl, whole_start seq m hm, J, H2.out.1, H2.out.2⟩
  case round =>
    obtain ⟨k, bg, f, hk, rfl, rfl, hh⟩ := hrel
    obtain ⟨hw, J, hle, hst⟩ := hh.out
    clear hh H2
    have HW := Lib.hid hw
    have hok := hw.ok
    clear hw
    by_cases hlt : k < us.length
    · obtain ⟨u, hu⟩ : ∃ u, u = us[k] := ⟨_, rfl⟩
      obtain ⟨g, o, rfl, hc⟩ := HB.out (by omega)
      obtain ⟨B, cu, hcell, hby⟩ := hc k hlt
      have hlu2 := HLU.out us[k] (List.getElem_mem hlt)
      rw [← hu] at hcell hby hlu2
      have hz := hst.cell (hle.cell hcell)
      have HBY := Lib.hid (hby.mono hle)
      have HST := Lib.hid hst
      have HLE := Lib.hid hle
      have HCL := Lib.hid (hle.cell hcell)
      have hcod : wr.cell? ⟨w.heap.size, 0, none⟩ = some (.string m.codec) := Blk.cell (hst.at 1 rfl) 0
      clear hc hcell hby hst hle hu
      rcases hbb : beginsS m.codec u with ⟨b1, b2⟩
      have HBB := Lib.hid hbb
      clear hbb
      go_upto_region 8 with fail
      go_quiet ((go_at_call 10; exact Calls.quiet_of (beginsR2 J _ _ m.codec B cu u b1 b2 HBB.out (HST.out.drewN _) HBY.out hlu2)))
      have hst6 := HST.out.drewN nq
      clear hz
      generalize wr.drewN nq = w6 at hst6 ⊢
      have hz := hst6.cell (show J.cell? ⟨g, o + k, none⟩ = some (.slice B u.length cu) from HCL.out)
      have H6 := Lib.hid hst6
      clear hst6 hcod HST
      go_upto_region 9 with fail
      go_cut [9] (fun v wx => v = .bool (bg || (b1 && b2)) ∧ wx = w6)
      case first =>
        cases bg <;> cases b1 <;> cases b2 <;> (go_wp2; go_meet; exact ⟨rfl, rfl⟩)
      case rest =>
        obtain ⟨rfl, rfl⟩ := hcut
        have hlg := cell_lt hz
        obtain ⟨i0, hi, hz0, hz1, hz2⟩ := HI.out
        have Hs := Lib.hid (HBY.out.src ((H6.out.alloc 5 #[]).drop) Try.underlying34 cu)
        have Ho := Lib.hid (H6.out.lit0 (e := 5))
        go_wp2_with (at_builtin; refine wpList_append_src _ rfl _ _ 34 34 rfl wc.heap.size 5 i0 (.int .u8 0) 1 1 Try.underlying34 hi hz0 hz1 hz2 rfl _ _ _ rfl Ho.out _ _ _ rfl Hs.out (by unfold maxLen; omega) (by omega) (by simp) ?_)
        intro v7 w7 hown' hgrow _
        have hB := ((Below.refl wc.heap.size wc).alloc (Nat.le_refl _) (.cells #[] 5)).grown hgrow (by simp) (fun k hk => by simp [Value.ownBlock] at hk; omega)
        have hown2 : w7.ownsRow wc.heap.size 5 1 v7 u.length (bvs u) := by simpa using hown'
        have hst7 := St.fresh H6.out (H6.out.below hB) hown2
        obtain ⟨A7, c7, rfl⟩ := own_form hown2
        obtain ⟨J7, hle7, hst8, hby7⟩ := St.freezeRow hst7
        have hP : (Pk.mk false 0 (IntKind.u16.wrap (seq + IntKind.u16.wrap k)) (IntKind.u32.wrap k) 0 (.slice none 0 0) (.slice none 0 0) 0).ok := ⟨by show 0 ≤ IntKind.u16.wrap _ ∧ IntKind.u16.wrap _ ≤ 65535; rw [u16_mod]; omega, by show 0 ≤ IntKind.u32.wrap _ ∧ IntKind.u32.wrap _ ≤ 4294967295; rw [u32_mod]; omega⟩
        have hnow : -9223372036854775808 ≤ (k : Int) ∧ (k : Int) ≤ 9223372036854775807 := by omega
        have h11 := pushC J7 _ w7 p f ⟨false, 0, IntKind.u16.wrap (seq + IntKind.u16.wrap k), IntKind.u32.wrap k, 0, .slice none 0 0, .slice none 0 0, 0⟩ A7 c7 u 0 k hst8 hby7 hlu2 hok hP hnow
        have hcd := HW.out.codec
        obtain ⟨f1, hstep⟩ := whole_step HW.out (P := ⟨false, 0, IntKind.u16.wrap (seq + IntKind.u16.wrap k), IntKind.u32.wrap k, 0, .slice none 0 0, .slice none 0 0, 0⟩) HBB.out hP hnow (by show IntKind.u16.wrap _ = _; rw [u16_mod, u16_mod]; omega)
        have HSTEP := Lib.hid hstep
        have HB1 := Lib.hid (show (beginsS f.codec u).1 = b1 by rw [hcd, HBB.out])
        have HL := Lib.hid (HLE.out.trans hle7)
        clear hown' hown2 hgrow hB hi hz0 hz1 hz2 Hs Ho hst7 hst8 hby7 hle7 hP hnow hstep hcd H6 hz hlg
        go_wp2_with fail
        refine h11.mono ?_
        clear h11
        rintro e w8 ⟨_, J8, M8, rfl, hle8, hst9, hq⟩
        have HL8 := Lib.hid (HL.out.trans hle8)
        clear hle8
        rcases HSTEP.out with ⟨hbg, hpu, hw⟩ | ⟨hbg, hpu, hw⟩
        · obtain ⟨A9, c9, rfl, hc9, rfl⟩ := PushQ.yes hq hpu
          rw [HB1.out] at hst9 ⊢
          have H9 := Lib.hid hst9
          have HWN := Lib.hid hw
          rw [hbg]
          clear hst9 hq hpu hw hbg hc9 HSTEP
          generalize payS f1 b1 u = py at *
          go_wp2
          go_roundw
          case rel => exact ⟨k + 1, true, sendS f1 _ b1 k, by omega, by go_num, rfl, HWN.out, J8, HL8.out, (H9.out.drop.alloc _ _).drop⟩
          case measure => simp [intOf]; omega
        · obtain ⟨rfl, rfl⟩ := PushQ.no hq hpu
          have H9 := Lib.hid hst9
          have HWN := Lib.hid hw
          rw [hbg]
          clear hst9 hq hpu hw hbg HSTEP
          go_wp2
          go_roundw
          case rel => exact ⟨k + 1, false, f1, by omega, by go_num, rfl, HWN.out, J8, HL8.out, (H9.out.alloc _ _).drop⟩
          case measure => simp [intOf]; omega
    · have H2 := Lib.hid (And.intro hle hst)
      have hk' : k = us.length := by omega
      subst hk'
      clear hle hst hlt
      go_wp2
      go_returns
      exact Ret.mk H2.out.1 H2.out.2.drop.drop ⟨rfl, rfl⟩
end Go.Proofs.Ytaemohkmingnpaa
