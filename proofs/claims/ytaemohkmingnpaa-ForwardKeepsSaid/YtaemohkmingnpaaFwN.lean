/- rostrumref17.Flow.Push on a new flow. -/
import Derived.Test.YtaemohkmingnpaaFwL
namespace Go.Proofs.Ytaemohkmingnpaa
open Go.RowKit
set_option linter.unusedSimpArgs false

theorem beginsR3 (I : Img) (M : List Res) (w : World) (cd : ByteArray) (A : Option Addr) (c : Nat) (b : List UInt8) (b1 b2 : Bool) (h : beginsS cd b = (b1, b2)) (hst : St I M w) (hb : Byts I A b) (hl : b.length ≤ 140737488351232) :
    Calls Try.prog 10 #[.string cd, .slice A b.length c] w fun e w' => e = .returned (.tuple #[.bool b1, .bool b2]) ∧ ∃ n, w' = w.drewN n := by
  have := beginsR I M w cd A c b hst hb hl
  rw [h] at this
  exact this
set_option maxRecDepth 8000 in
set_option maxHeartbeats 8000000 in
theorem pushRC (I : Img) (M : List Res) (w : World) (p : Nat) (m : Md) (P : Pk) (A : Option Addr) (c : Nat) (bs : List UInt8) (now : Int) (fr : Bool) (hfr : frS (fl0 m) bs = fr) (hst : St I (bk p 71 (rfC m) :: M) w) (hb : Byts I A bs) (hl : bs.length ≤ 140737488351232) :
    Calls Try.prog 15 #[.pointer (some ⟨p, 0, none⟩), .int .i64 0, .agg (pkC P (.slice A bs.length c)), .int .i64 now] w (Ret I (fun v _ M' => ∃ P2 pv, v = .tuple #[.agg (xC P2 pv), .bool fr, .bool (!fr)] ∧ (pv = .slice none 0 0 ∨ ∃ A2 n2 c2, pv = .slice A2 n2 c2) ∧ P2.seq = (if fr = true then m.seq else 0) ∧ M' = M)) := by
  have HB := Lib.hid hb
  obtain ⟨hc, hf, hlt⟩ := Blk.all hst.head
  rcases hbb : beginsS m.codec bs with ⟨b1, b2⟩
  have hfr2 : fr = (b1 && b2) := by rw [← hfr]; unfold frS; rw [show (fl0 m).codec = m.codec from rfl, hbb]
  have HBB := Lib.hid (And.intro hbb hfr2)
  have hst1 := (hst.alloc 49 (pkC P (.slice A bs.length c))).alloc 49 zeroC
  simp only [World.size_alloc] at hst1
  clear hst hb hbb hfr hfr2
  go_enter Try.func15, Try.ntmps15
  go_upto_region 1 with fail
  generalize World.alloc (World.alloc w _) _ = w1 at hst1 ⊢
  clear hc hf hlt
  obtain ⟨hc, hf, hlt⟩ := Blk.all (hst1.at 2 rfl)
  obtain ⟨hc6, hf6, hlt6⟩ := Blk.all (hst1.at 1 rfl)
  have H1 := Lib.hid hst1
  clear hst1
  go_quiet ((go_at_call 10; exact Calls.quiet_of (beginsR3 I _ _ m.codec A c bs b1 b2 HBB.out.1 (H1.out.drewN _) HB.out hl)))
  have hst2 := (H1.out.drewN nq).alloc 49 zeroC
  clear hc hf hlt hc6 hf6 hlt6 H1
  generalize w1.drewN nq = w2 at hst2 ⊢
  go_upto_region 5 with fail
  obtain ⟨q13, hq13⟩ : ∃ n, n = w2.heap.size := ⟨_, rfl⟩
  rw [← hq13] at hst2 ⊢
  generalize World.alloc w2 _ = w3 at hst2 ⊢
  clear hq13
  have hb13 : Blk w3 q13 49 zeroC := hst2.at 0 rfl
  have hb8 : Blk w3 (w.heap.size + 1) 49 zeroC := hst2.at 1 rfl
  obtain ⟨hc, hf, hlt⟩ := Blk.all (hst2.at 3 rfl)
  obtain ⟨hc6, hf6, hlt6⟩ := Blk.all (hst2.at 2 rfl)
  obtain ⟨fs, hd⟩ := pkD49
  have H2 := Lib.hid hst2
  clear hst2
  have hfr := HBB.out.2
  cases b1
  case false =>
    rw [Bool.false_and] at hfr
    subst hfr
    go_upto_region 99 with (first | refine wpList_load_row rfl 49 (.tmp 13) rfl q13 rfl 49 _ (0, 0) _ hb13 hd rfl pkI49 ?_ | refine wpList_store_row rfl 49 (.tmp 8) (.tmp 48) rfl (w.heap.size + 1) zeroC rfl rfl 49 _ hb8 pkI49 rfl zeroOne ?_)
    refine bodyPost_ret (res15 _ _ zeroP (.slice none 0 0) _ _ _ rfl rfl rfl ((H2.out.setR1 zeroC).at 1 rfl)) rfl ?_
    exact Ret.mk (.refl I) (H2.out.setR1 zeroC).drop.drop.drop.drop ⟨zeroP, _, rfl, .inl rfl, rfl, rfl⟩
  case true =>
    rw [Bool.true_and] at hfr
    subst hfr
    cases fr
    · go_upto_region 99 with (first | refine wpList_load_row rfl 49 (.tmp 13) rfl q13 rfl 49 _ (0, 0) _ hb13 hd rfl pkI49 ?_ | refine wpList_store_row rfl 49 (.tmp 8) (.tmp 48) rfl (w.heap.size + 1) zeroC rfl rfl 49 _ hb8 pkI49 rfl zeroOne ?_)
      refine bodyPost_ret (res15 _ _ zeroP (.slice none 0 0) _ _ _ rfl rfl rfl ((H2.out.setR1 zeroC).at 1 rfl)) rfl ?_
      exact Ret.mk (.refl I) (H2.out.setR1 zeroC).drop.drop.drop.drop ⟨zeroP, _, rfl, .inl rfl, rfl, rfl⟩
    · have hst4 : St I (bk q13 49 zeroC :: bk (w.heap.size + 1) 49 zeroC :: bk w.heap.size 49 (pkC P (.slice A bs.length c)) :: bk p 71 (rC m.codec (min (max m.clock 1) 1000000) m.kind m.source m.seq m.time ((m.time - P.time) % 4294967296) 0 0 false false 0 0 0) :: M) (((w3.setCell ⟨p, 6, none⟩ (.int .u32 ((m.time - P.time) % 4294967296))).setCell ⟨p, 8, none⟩ (.int .i64 0)).setCell ⟨p, 9, none⟩ (.bool false)) := ((H2.out.set3 6 (.int .u32 ((m.time - P.time) % 4294967296))).set3 8 (.int .i64 0)).set3 9 (.bool false)
      clear hb13 hb8
      go_upto_region 15 with fail
      generalize World.setCell (World.setCell (World.setCell _ _ _) _ _) _ _ = w4 at hst4 ⊢
      clear hc hf hlt hc6 hf6 hlt6 H2
      have hb6 : Blk w4 w.heap.size 49 (pkC P (.slice A bs.length c)) := hst4.at 2 rfl
      go_upto_region 99 with (first | refine wpList_load_row rfl 49 (.tmp 6) rfl w.heap.size rfl 49 _ (0, 0) _ hb6 hd rfl pkI49 ?_ | refine wpList_store_row rfl 49 (.tmp 8) (.tmp 91) rfl (w.heap.size + 1) (xC P2 (.slice A2 n2 c2)) rfl rfl 49 _ hb8 pkI49 rfl (by simp [Value.oneCell']) ?_ | (go_at_call 26; refine (sendRC I _ w4 p m.codec _ m.kind m.source m.seq m.time _ 0 0 false 0 0 P A c bs true now hst4.swap3 HB.out hl).mono ?_; clear hst4 hb6; rintro e w5 ⟨_, J5, _, rfl, hle5, hst5, P2, A2, c2, n2, rfl, hseq, rfl⟩; have hb8 : Blk w5 (w.heap.size + 1) 49 zeroC := hst5.at 0 rfl))
      refine bodyPost_ret (res15 _ _ P2 (.slice A2 n2 c2) _ _ _ rfl rfl rfl ((hst5.setR _).at 0 rfl)) rfl ?_
      exact Ret.mk hle5 (hst5.setR (xC P2 (.slice A2 n2 c2))).drop.drop.drop ⟨P2, _, rfl, .inr ⟨A2, n2, c2, rfl⟩, hseq, rfl⟩
end Go.Proofs.Ytaemohkmingnpaa
