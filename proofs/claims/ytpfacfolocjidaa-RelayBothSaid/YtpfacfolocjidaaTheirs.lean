import Derived.Test.YtpfacfolocjidaaTake
import Derived.Deep.RegionHeldLaw
import Derived.Deep.DrawnRows
namespace Go.Proofs.Ytpfacfolocjidaa
open Go.RowKit
attribute [local go_sem ↓] Go.wp_at_zero Go.wp_at_succ

theorem Blk.three3 {w' : World} {g0 T0 : Nat} {a b c : Value} (h0 : Blk w' g0 T0 #[a, b, c]) : w'.cell? ⟨g0, 0, none⟩ = some a ∧ w'.cell? ⟨g0, 1, none⟩ = some b ∧ w'.cell? ⟨g0, 2, none⟩ = some c := ⟨h0.cell 0, h0.cell 1, h0.cell 2⟩
theorem Blk.grown {w w' : World} {g : Nat} {t : TypeId} {cs : Array Value} {row : Option Nat} (h : Blk w g t cs) (hb : w.grownBy w' row) (hg : some g ≠ row) : Blk w' g t cs := (hb.block g h.lt hg).trans h

set_option maxHeartbeats 1000000 in
theorem c15 (s k : Int) (A : Option Addr) (c : Nat) (d : List UInt8) (w : World) (hB : Byts w A d) (hl : d.length ≤ 140737488351232) :
    Calls Try.prog 15 #[.agg #[.int .u16 s, .int .u32 k, .slice A d.length c]] w fun e w' => ∃ v, e = .returned (.agg #[.int .u16 s, .int .u32 k, v]) ∧ w'.ownsRow w.heap.size 5 1 v d.length (bvs d) ∧ Below w.heap.size w w' := by
  obtain ⟨i0, hi, hz0, hz1, hz2⟩ := info_parts info5
  have HB := Lib.hid hB
  clear hB
  go_enter Try.func15, Try.ntmps15
  go_wp2_with fail
  have hx : Below w.heap.size w ((w.alloc (.cells #[.int .u16 s, .int .u32 k, .slice A d.length c] 38)).alloc (.cells #[.int .u16 0, .int .u32 0, .slice none 0 0] 29)) := ((Below.refl _ _).alloc (Nat.le_refl _) _).alloc (by simp) _
  have hy := hx.alloc hx.size (.cells #[] 5)
  have hown := World.ownsRow_lit (base := w.heap.size + 1 + 1) (e := 5) (size := 1) ((w.alloc (.cells #[.int .u16 s, .int .u32 k, .slice A d.length c] 38)).alloc (.cells #[.int .u16 0, .int .u32 0, .slice none 0 0] 29)) #[] 0 (by simp) (Nat.zero_le _) rfl
  have hsrc := (HB.out.below hy.drew (Nat.le_refl _)).src (P := Try.prog) (t := 27) Try.underlying27 c
  simp only [World.size_alloc] at hown
  have hk0 := (Blk.new w 38 #[.int .u16 s, .int .u32 k, .slice A d.length c]).below ((((Below.refl _ _).alloc (Nat.le_refl _) (.cells #[.int .u16 0, .int .u32 0, .slice none 0 0] 29)).alloc (by simp) (.cells #[] 5)).drew) (by simp)
  have hk1 := (Blk.new (w.alloc (.cells #[.int .u16 s, .int .u32 k, .slice A d.length c] 38)) 29 #[.int .u16 0, .int .u32 0, .slice none 0 0]).below (((Below.refl _ _).alloc (Nat.le_refl _) (.cells #[] 5)).drew) (by simp)
  simp only [World.size_alloc] at hk1
  have HK0 := Lib.hid hk0
  have HK1 := Lib.hid hk1
  clear hk0 hk1
  have Ho := Lib.hid hown
  have Hs := Lib.hid hsrc
  have Hy := Lib.hid hy
  clear hx hy hown hsrc
  go_region_held_law (fun w' => w'.cell? ⟨w.heap.size, 0, none⟩ = some (.int .u16 s) ∧ w'.cell? ⟨w.heap.size, 1, none⟩ = some (.int .u32 k) ∧ w'.cell? ⟨w.heap.size, 2, none⟩ = some (.slice A d.length c)) (first | exact Blk.three3 HK0.out | go_keep | exact Blk.three3 (HK0.out.grown hgrow (by simp only [Value.ownBlock, ne_eq, Option.some.injEq]; omega))) ((refine step_append_src _ (by rfl) _ _ 27 27 (by rfl) (w.heap.size + 1 + 1) 5 i0 (.int .u8 0) 1 1 Try.underlying27 hi hz0 hz1 hz2 rfl _ 0 [] (by rfl) (own_drew Ho.out) (.slice A d.length c) d.length (bvs d) (by rfl) Hs.out (by unfold maxLen; omega) (by omega) (by simp) ?_; intro v' w3 hown' hgrow hat; obtain ⟨A', c', rfl⟩ := own_form hown'; obtain ⟨g0, g1, g2, gf0, gf1, gf2, glt⟩ := (HK1.out.grown hgrow (by simp only [Value.ownBlock, ne_eq, Option.some.injEq]; omega)).three; obtain ⟨m0, m1, m2⟩ := Blk.three3 (HK0.out.grown hgrow (by simp only [Value.ownBlock, ne_eq, Option.some.injEq]; omega))))
  have hB3 := Hy.out.drew.grown hgrow Hy.out.size (fun k h => by simp only [Value.ownBlock, Option.some.injEq] at h; omega)
  have hB4 := ((hB3.setCell (p := ⟨w.heap.size + 1, 0, none⟩) (by simp) (.int .u16 s)).setCell (p := ⟨w.heap.size + 1, 1, none⟩) (by simp) (.int .u32 k)).setCell (p := ⟨w.heap.size + 1, 2, none⟩) (by simp) (.slice A' d.length c')
  have hO : w3.ownsRow (w.heap.size + 1 + 1) 5 1 (.slice A' d.length c') d.length (bvs d) := by simpa using hown'
  have hO4 := own_mono (own_set3 hO (g := w.heap.size + 1) (by omega) (.int .u16 s) (.int .u32 k) (.slice A' d.length c')) (base' := w.heap.size) (by omega)
  have P := Lib.hid (And.intro hO4 hB4)
  clear hB3 hB4 hO hO4 hown' hgrow hat
  go_wp2
  exact bodyPost_ret (v := .agg #[.int .u16 s, .int .u32 k, .slice A' d.length c']) (by simp [results, Try.results15, go_sem, g0, g1, g2]) rfl ⟨_, rfl, P.out.1, P.out.2⟩

set_option maxHeartbeats 400000 in
theorem c17 (s1 k1 s2 k2 : Int) (A1 A2 : Option Addr) (c1 c2 : Nat) (d1 d2 : List UInt8) (w : World) (h1 : Byts w A1 d1) (h2 : Byts w A2 d2) (hs : s1 = s2) (hk : k1 = k2) (hd : d1 = d2) :
    Calls Try.prog 17 #[.agg #[.int .u16 s1, .int .u32 k1, .slice A1 d1.length c1], .agg #[.int .u16 s2, .int .u32 k2, .slice A2 d2.length c2]] w fun e w' => e = .returned (.bool true) ∧ Below w.heap.size w w' := by
  subst hs hk hd
  have hb : Below w.heap.size w ((w.alloc (.cells #[.int .u16 s1, .int .u32 k1, .slice A1 d1.length c1] 29)).alloc (.cells #[.int .u16 s1, .int .u32 k1, .slice A2 d1.length c2] 38)) := ((Below.refl _ _).alloc (Nat.le_refl _) _).alloc (by simp) _
  have v1 := conv_bytes (h1.below hb (Nat.le_refl _)) c1
  have v2 := conv_bytes (h2.below hb (Nat.le_refl _)) c2
  have HB := Lib.hid hb
  clear hb h1 h2
  go_enter Try.func17, Try.ntmps17
  go_wp2
  go_ret
  exact ⟨ret_bool (by simp), HB.out⟩
end Go.Proofs.Ytpfacfolocjidaa
