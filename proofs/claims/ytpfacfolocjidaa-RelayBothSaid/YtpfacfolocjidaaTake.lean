import Derived.Test.YtpfacfolocjidaaRefLab
import Derived.BigRegion
namespace Go.Proofs.Ytpfacfolocjidaa
open Go.RowKit

set_option maxHeartbeats 400000 in
theorem c32 (A1 A2 : Option Addr) (c1 c2 : Nat) (d1 d2 : List UInt8) (w : World) (h1 : Byts w A1 d1) (h2 : Byts w A2 d2) :
    Calls Try.prog 32 #[.slice A1 d1.length c1, .slice A2 d2.length c2] w fun e w' => e = .returned (.bool (d1 == d2)) ∧ w = w' := by
  have v1 := conv_bytes h1 c1
  have v2 := conv_bytes h2 c2
  go_enter Try.func32, Try.ntmps32
  go_wp2
  go_ret
  exact ⟨rfl, rfl⟩

structure TK where
  s : Int
  k : Int
  d : List UInt8
  l : ByteArray
  e : Int
  cs : List Ch
def labAt (s : Int) (cs : List Ch) : ByteArray := ((cs.find? fun c => c.1 == s).map (·.2)).getD ⟨#[]⟩
def tkNo (e : Int) (cs : List Ch) : TK := ⟨0, 0, [], ⟨#[]⟩, e, cs⟩
/-- what a taking answers, and the channels behind it -/
def takeS (cs : List Ch) (s k : Int) (d : List UInt8) : TK :=
  if k = 51 ∨ k = 53 then if idx s cs < 0 then tkNo 7 cs else ⟨s, k, d, labAt s cs, 0, cs⟩
  else if k ≠ 50 then tkNo 2 cs
  else if d = [2] then if idx s cs < 0 then tkNo 7 cs else tkNo 0 cs
  else match labS d with
    | none => tkNo 2 cs
    | some x => if openE s x cs = 0 then ⟨s, 50, [2], ⟨#[]⟩, 0, cs ++ [(s, x)]⟩ else tkNo (openE s x cs) cs

theorem idx_at {s : Int} {cs : List Ch} (h : ¬ idx s cs < 0) : ∃ (i : Nat) (hi : i < cs.length), idx s cs = i ∧ labAt s cs = cs[i].2 := by
  unfold idx at h ⊢
  cases he : cs.findIdx? (fun c => c.1 == s) with
  | none => rw [he] at h; exact absurd (by decide) h
  | some i =>
    rw [List.findIdx?_eq_some_iff_getElem] at he
    obtain ⟨hi, h1, h2⟩ := he
    refine ⟨i, hi, rfl, ?_⟩
    have : cs.find? (fun c => c.1 == s) = some cs[i] := by
      rw [List.find?_eq_some_iff_getElem]
      exact ⟨h1, i, hi, rfl, fun j hj => by simpa using h2 j hj⟩
    simp [labAt, this]

def TkPost (own : Bool) (T E base b : Nat) (v : Value) (t : TK) (w : World) (e : Ending) (w' : World) : Prop :=
  ∃ v' A c, Bk T E w' base b v' t.cs ∧ Fr w w' b v ∧ (v'.ownBlock = v.ownBlock ∨ ∃ g, v'.ownBlock = some g ∧ w.heap.size ≤ g) ∧
    e = .returned (.tuple #[.agg #[.int .u16 t.s, .int .u32 t.k, .slice A t.d.length c], .string t.l, .int .i64 t.e]) ∧ Byts w' A t.d ∧ t.d.length ≤ c ∧
    (own = true → w'.ownsRow w.heap.size 5 1 (.slice A t.d.length c) t.d.length (bvs t.d))
theorem TkPost.no {own : Bool} {T E base b : Nat} {v v' : Value} {cs : List Ch} {n : Int} {t : TK} {w w' : World} {e : Ending} (ht : t = tkNo n cs) (hk : Bk T E w' base b v' cs) (f : Fr w w' b v) (hat : v'.ownBlock = v.ownBlock ∨ ∃ g, v'.ownBlock = some g ∧ w.heap.size ≤ g)
    (he : e = .returned (.tuple #[.agg #[.int .u16 0, .int .u32 0, .slice none 0 0], .string ⟨#[]⟩, .int .i64 n])) : TkPost own T E base b v t w e w' := by
  subst ht
  exact ⟨v', none, 0, hk, f, hat, he, Byts.nil _ _, Nat.le_refl _, fun _ => World.ownsRow_nil _ _ _ _⟩
/-- three cells written -/
def set3 (w : World) (g : Nat) (a b c : Value) : World := ((w.setCell ⟨g, 0, none⟩ a).setCell ⟨g, 1, none⟩ b).setCell ⟨g, 2, none⟩ c
theorem Bk.set3 {T E base b : Nat} {v : Value} {cs : List Ch} {w : World} (hk : Bk T E w base b v cs) {g : Nat} (hb : g ≠ b) (hv : v.ownBlock ≠ some g) (x y z : Value) : Bk T E (set3 w g x y z) base b v cs := by
  refine ((hk.far ?_ hv _).far ?_ hv _).far ?_ hv _
  · exact hb
  · exact hb
  · exact hb
theorem Fr.set3 {w w1 : World} {b : Nat} {v : Value} (f : Fr w w1 b v) {g : Nat} (hp : w.heap.size ≤ g) (x y z : Value) : Fr w (set3 w1 g x y z) b v :=
  ((f.setNew (p := ⟨g, 0, none⟩) hp _).setNew (p := ⟨g, 1, none⟩) hp _).setNew (p := ⟨g, 2, none⟩) hp _

theorem three_blks {w w1 : World} {C0 C1 C2 : Array Value} {T0 T1 T2 : TypeId} (hb : Below (((w.alloc (.cells C0 T0)).alloc (.cells C1 T1)).alloc (.cells C2 T2)).heap.size (((w.alloc (.cells C0 T0)).alloc (.cells C1 T1)).alloc (.cells C2 T2)) w1) :
    Blk w1 w.heap.size T0 C0 ∧ Blk w1 (w.heap.size + 1) T1 C1 ∧ Blk w1 (w.heap.size + 1 + 1) T2 C2 ∧ Below w.heap.size w w1 ∧ w.heap.size + 1 + 1 + 1 ≤ w1.heap.size := by
  have h0 : Below w.heap.size w (((w.alloc (.cells C0 T0)).alloc (.cells C1 T1)).alloc (.cells C2 T2)) := (((Below.refl _ _).alloc (Nat.le_refl _) _).alloc (by simp) _).alloc (by simp; omega) _
  have hs := hb.size
  simp only [World.size_alloc] at hs
  refine ⟨?_, ?_, ?_, h0.trans (hb.mono h0.size), hs⟩
  · refine Blk.below ?_ hb (by simp; omega)
    have h1 := Below.heap_alloc ((w.alloc (.cells C0 T0)).alloc (.cells C1 T1)) (.cells C2 T2) w.heap.size (by simp; omega)
    have h2 := Below.heap_alloc (w.alloc (.cells C0 T0)) (.cells C1 T1) w.heap.size (by simp)
    exact (h1.trans h2).trans (Blk.new w T0 C0)
  · refine Blk.below ?_ hb (by simp)
    have h1 := Below.heap_alloc ((w.alloc (.cells C0 T0)).alloc (.cells C1 T1)) (.cells C2 T2) (w.heap.size + 1) (by simp)
    have h2 := Blk.new (w.alloc (.cells C0 T0)) T1 C1
    simp only [World.size_alloc] at h2
    exact h1.trans h2
  · refine Blk.below ?_ hb (by simp)
    have h2 := Blk.new ((w.alloc (.cells C0 T0)).alloc (.cells C1 T1)) T2 C2
    simp only [World.size_alloc] at h2
    exact h2
theorem set3_cells {w : World} {g : Nat} {x y z a b c : Value} {T : TypeId} (h : Blk w g T #[x, y, z]) (O : Obj) :
    ((((w.setCell ⟨g, 0, none⟩ a).setCell ⟨g, 1, none⟩ b).setCell ⟨g, 2, none⟩ c).alloc O).cell? ⟨g, 0, none⟩ = some a ∧ ((((w.setCell ⟨g, 0, none⟩ a).setCell ⟨g, 1, none⟩ b).setCell ⟨g, 2, none⟩ c).alloc O).cell? ⟨g, 1, none⟩ = some b ∧
    ((((w.setCell ⟨g, 0, none⟩ a).setCell ⟨g, 1, none⟩ b).setCell ⟨g, 2, none⟩ c).alloc O).cell? ⟨g, 2, none⟩ = some c := by
  have h3 := ((h.set 0 a).set 1 b).set 2 c
  have h4 := h3.below ((Below.refl _ _).alloc (Nat.le_refl _) O) h3.lt
  exact ⟨h4.cell 0, h4.cell 1, h4.cell 2⟩
theorem Bk.drew {T E base b : Nat} {v : Value} {cs : List Ch} {w : World} (hk : Bk T E w base b v cs) : Bk T E w.drew base b v cs := ⟨hk.blk, hk.lo, hk.own⟩
theorem Fr.drew {w w' : World} {b : Nat} {v : Value} (f : Fr w w' b v) : Fr w w'.drew b v := ⟨f.os, f.tape, f.output, f.size, f.block⟩
theorem own_setNew {w : World} {base e size n : Nat} {v : Value} {xs : List Value} (h : w.ownsRow base e size v n xs) {p : Addr} (hp : p.block < base) (u : Value) : (w.setCell p u).ownsRow base e size v n xs := ownsRow_setCell_below h hp u
theorem own_set3 {w : World} {base e size n : Nat} {v : Value} {xs : List Value} (h : w.ownsRow base e size v n xs) {g : Nat} (hp : g < base) (x y z : Value) : (set3 w g x y z).ownsRow base e size v n xs :=
  ownsRow_setCell_below (ownsRow_setCell_below (ownsRow_setCell_below h (by exact hp) _) (by exact hp) _) (by exact hp) _
theorem own_drew {w : World} {base e size n : Nat} {v : Value} {xs : List Value} (h : w.ownsRow base e size v n xs) : w.drew.ownsRow base e size v n xs := h
theorem own_cap {w : World} {base e size n c : Nat} {A : Option Addr} {xs : List Value} (h : w.ownsRow base e size (.slice A n c) n xs) : n ≤ c := by
  rcases h.2 with ⟨h, hn⟩ | ⟨g, cap, cur, h, _, _, hc, _⟩
  · omega
  · injection h with _ _ h; omega
theorem Bk.ne_new {T E base b : Nat} {v : Value} {cs : List Ch} {w : World} (hk : Bk T E w base b v cs) {g : Nat} (hg : w.heap.size ≤ g) : v.ownBlock ≠ some g := by
  intro h
  have := (hk.own.lt _ h).2
  omega

set_option maxHeartbeats 1000000 in
theorem c14_other (s : Int) (k : Int) (A : Option Addr) (c : Nat) (d : List UInt8) (base b : Nat) (v : Value) (cs : List Ch) (w : World) (hk : Bk 59 74 w base b v cs) (hm : cs.length ≤ 8) (h51 : k ≠ 51) (h53 : k ≠ 53) (h50 : k ≠ 50) :
    Calls Try.prog 14 #[.pointer (some ⟨b, 0, none⟩), .agg #[.int .u16 s, .int .u32 k, .slice A d.length c]] w (TkPost true 59 74 base b v (takeS cs s k d) w) := by
  have HT := Lib.hid (show takeS cs s k d = tkNo 2 cs by simp [takeS, h51, h53, h50])
  have e51 : (k == 51) = false := by simpa using h51
  have e53 : (k == 53) = false := by simpa using h53
  have e50 : (k != 50) = true := by simpa using h50
  have hlt := hk.lt
  have hne := hk.ne_new (g := w.heap.size + 1) (by omega)
  go_enter Try.func14, Try.ntmps14
  go_wp2_with fail
  refine (c30 s base b v cs _ hm (hk.below ((((Below.refl _ _).alloc (Nat.le_refl _) _).alloc (by simp) _).alloc (by simp; omega) _) (Nat.le_refl _))).mono ?_
  rintro e w1 ⟨rfl, hb1⟩
  obtain ⟨hG0, hG1, hG2, hB, hs1⟩ := three_blks hb1
  have hk1 := hk.below hB (Nat.le_refl _)
  have HB := Lib.hid hB
  obtain ⟨m0, m1, m2, mf0, mf1, mf2, mlt⟩ := hG0.three
  obtain ⟨r0, r1, r2, rf0, rf1, rf2, rlt⟩ := hG1.three
  obtain ⟨z0, z1, z2, _, _, _, zlt⟩ := hG2.three
  clear hb1 hB
  have P := Lib.hid (TkPost.no (own := true) (e := .returned (.tuple #[.agg #[.int .u16 0, .int .u32 0, .slice none 0 0], .string ⟨#[]⟩, .int .i64 2])) HT.out (hk1.set3 (g := w.heap.size + 1) (by omega) hne (.int .u16 0) (.int .u32 0) (.slice none 0 0)) ((Fr.of_below HB.out b v).set3 (by omega) _ _ _) (.inl rfl) rfl)
  clear hG0 hG1 hG2 hk1 hne
  clear h51 h53 h50
  go_wp2
  exact bodyPost_ret (v := .tuple #[.agg #[.int .u16 0, .int .u32 0, .slice none 0 0], .string ⟨#[]⟩, .int .i64 2]) (by simp [results, Try.results14, go_sem, r0, r1, r2]) rfl P.out

set_option maxHeartbeats 1000000 in
theorem c14_none51 (s : Int)  (A : Option Addr) (c : Nat) (d : List UInt8) (base b : Nat) (v : Value) (cs : List Ch) (w : World) (hk : Bk 59 74 w base b v cs) (hm : cs.length ≤ 8) (hi : idx s cs < 0) :
    Calls Try.prog 14 #[.pointer (some ⟨b, 0, none⟩), .agg #[.int .u16 s, .int .u32 51, .slice A d.length c]] w (TkPost true 59 74 base b v (takeS cs s 51 d) w) := by
  have HT := Lib.hid (show takeS cs s 51 d = tkNo 7 cs by simp [takeS, hi])
  have hlt := hk.lt
  have hne := hk.ne_new (g := w.heap.size + 1) (by omega)
  go_enter Try.func14, Try.ntmps14
  go_wp2_with fail
  refine (c30 s base b v cs _ hm (hk.below ((((Below.refl _ _).alloc (Nat.le_refl _) _).alloc (by simp) _).alloc (by simp; omega) _) (Nat.le_refl _))).mono ?_
  rintro e w1 ⟨rfl, hb1⟩
  obtain ⟨hG0, hG1, hG2, hB, hs1⟩ := three_blks hb1
  have hk1 := hk.below hB (Nat.le_refl _)
  have HB := Lib.hid hB
  obtain ⟨m0, m1, m2, mf0, mf1, mf2, mlt⟩ := hG0.three
  obtain ⟨r0, r1, r2, rf0, rf1, rf2, rlt⟩ := hG1.three
  obtain ⟨z0, z1, z2, _, _, _, zlt⟩ := hG2.three
  clear hb1 hB
  have P := Lib.hid (TkPost.no (own := true) (e := .returned (.tuple #[.agg #[.int .u16 0, .int .u32 0, .slice none 0 0], .string ⟨#[]⟩, .int .i64 7])) HT.out (hk1.set3 (g := w.heap.size + 1) (by omega) hne (.int .u16 0) (.int .u32 0) (.slice none 0 0)) ((Fr.of_below HB.out b v).set3 (by omega) _ _ _) (.inl rfl) rfl)
  clear hG0 hG1 hG2 hk1 hne
  go_wp2
  exact bodyPost_ret (v := .tuple #[.agg #[.int .u16 0, .int .u32 0, .slice none 0 0], .string ⟨#[]⟩, .int .i64 7]) (by simp [results, Try.results14, go_sem, r0, r1, r2]) rfl P.out

set_option maxHeartbeats 1000000 in
theorem c14_none53 (s : Int)  (A : Option Addr) (c : Nat) (d : List UInt8) (base b : Nat) (v : Value) (cs : List Ch) (w : World) (hk : Bk 59 74 w base b v cs) (hm : cs.length ≤ 8) (hi : idx s cs < 0) :
    Calls Try.prog 14 #[.pointer (some ⟨b, 0, none⟩), .agg #[.int .u16 s, .int .u32 53, .slice A d.length c]] w (TkPost true 59 74 base b v (takeS cs s 53 d) w) := by
  have HT := Lib.hid (show takeS cs s 53 d = tkNo 7 cs by simp [takeS, hi])
  have hlt := hk.lt
  have hne := hk.ne_new (g := w.heap.size + 1) (by omega)
  go_enter Try.func14, Try.ntmps14
  go_wp2_with fail
  refine (c30 s base b v cs _ hm (hk.below ((((Below.refl _ _).alloc (Nat.le_refl _) _).alloc (by simp) _).alloc (by simp; omega) _) (Nat.le_refl _))).mono ?_
  rintro e w1 ⟨rfl, hb1⟩
  obtain ⟨hG0, hG1, hG2, hB, hs1⟩ := three_blks hb1
  have hk1 := hk.below hB (Nat.le_refl _)
  have HB := Lib.hid hB
  obtain ⟨m0, m1, m2, mf0, mf1, mf2, mlt⟩ := hG0.three
  obtain ⟨r0, r1, r2, rf0, rf1, rf2, rlt⟩ := hG1.three
  obtain ⟨z0, z1, z2, _, _, _, zlt⟩ := hG2.three
  clear hb1 hB
  have P := Lib.hid (TkPost.no (own := true) (e := .returned (.tuple #[.agg #[.int .u16 0, .int .u32 0, .slice none 0 0], .string ⟨#[]⟩, .int .i64 7])) HT.out (hk1.set3 (g := w.heap.size + 1) (by omega) hne (.int .u16 0) (.int .u32 0) (.slice none 0 0)) ((Fr.of_below HB.out b v).set3 (by omega) _ _ _) (.inl rfl) rfl)
  clear hG0 hG1 hG2 hk1 hne
  go_wp2
  exact bodyPost_ret (v := .tuple #[.agg #[.int .u16 0, .int .u32 0, .slice none 0 0], .string ⟨#[]⟩, .int .i64 7]) (by simp [results, Try.results14, go_sem, r0, r1, r2]) rfl P.out

set_option maxHeartbeats 1000000 in
theorem c14_has51 (s : Int)  (A : Option Addr) (c : Nat) (d : List UInt8) (base b : Nat) (v : Value) (cs : List Ch) (w : World) (hk : Bk 59 74 w base b v cs) (hm : cs.length ≤ 8) (hi : ¬ idx s cs < 0) (hB : Byts w A d) (hl : d.length ≤ 140737488351232) :
    Calls Try.prog 14 #[.pointer (some ⟨b, 0, none⟩), .agg #[.int .u16 s, .int .u32 51, .slice A d.length c]] w (TkPost true 59 74 base b v (takeS cs s 51 d) w) := by
  obtain ⟨i, hi8, hidx, hla⟩ := idx_at hi
  have HT := Lib.hid (show takeS cs s 51 d = ⟨s, 51, d, cs[i].2, 0, cs⟩ by simp [takeS, hi, hla])
  have hlow : ¬ (i : Int) < 0 := by omega
  have Hl := Lib.hid hla
  have HBd := Lib.hid hB
  clear hi hla hB
  have hlt := hk.lt
  have hne := hk.ne_new (g := w.heap.size + 1) (by omega)
  go_enter Try.func14, Try.ntmps14
  go_wp2_with fail
  refine (c30 s base b v cs _ hm (hk.below ((((Below.refl _ _).alloc (Nat.le_refl _) _).alloc (by simp) _).alloc (by simp; omega) _) (Nat.le_refl _))).mono ?_
  rintro e w1 ⟨rfl, hb1⟩
  obtain ⟨hG0, hG1, hG2, hB, hs1⟩ := three_blks hb1
  have hk1 := hk.below hB (Nat.le_refl _)
  have HB := Lib.hid hB
  obtain ⟨m0, m1, m2, mf0, mf1, mf2, mlt⟩ := hG0.three
  obtain ⟨r0, r1, r2, rf0, rf1, rf2, rlt⟩ := hG1.three
  obtain ⟨z0, z1, z2, _, _, _, zlt⟩ := hG2.three
  clear hb1 hB
  rw [hidx]
  have hcl := clone A c d w1 (HBd.out.below HB.out (Nat.le_refl _)) (by omega)
  clear hidx
  go_wp2_with fail
  refine hcl.mono ?_
  rintro e w2 ⟨v2, rfl, hO, hb2⟩
  obtain ⟨A2, c2, rfl⟩ := own_form hO
  have hb2' := HB.out.trans (hb2.mono HB.out.size)
  have hk2 := hk1.below hb2 (Nat.le_refl _)
  obtain ⟨m0, m1, m2, mf0, mf1, mf2, mlt⟩ := (hG0.below hb2 (by omega)).three
  obtain ⟨r0, r1, r2, rf0, rf1, rf2, rlt⟩ := (hG1.below hb2 (by omega)).three
  obtain ⟨AB, capB, rfl, hrow⟩ := hk2.form
  obtain ⟨gB, rfl, hgB, hcell⟩ := hrow (by omega)
  obtain ⟨l0, l1⟩ := hcell i hi8
  have hbc := hk2.cell
  have hgw : gB < w.heap.size := (hk.own.lt gB rfl).2
  have hgm : gB ≠ w.heap.size := by omega
  have hgr : gB ≠ w.heap.size + 1 := by omega
  have hbm : b ≠ w.heap.size := by omega
  have hbr : b ≠ w.heap.size + 1 := by omega
  have hlt2 : (i : Int) < cs.length := by omega
  have h0i : (0 : Int) ≤ i := by omega
  clear hcell hrow hcl hG2 hG1 hG0 z0 z1 z2 zlt
  have P : ∀ e, e = .returned (.tuple #[.agg #[.int .u16 s, .int .u32 51, .slice A2 d.length c2], .string cs[i].2, .int .i64 0]) → TkPost true 59 74 base b (.slice (some ⟨gB, 0, none⟩) cs.length capB) (takeS cs s 51 d) w e (set3 (w2.setCell ⟨w.heap.size, 2, none⟩ (.slice A2 d.length c2)) (w.heap.size + 1) (.int .u16 s) (.int .u32 51) (.slice A2 d.length c2)).drew := by
    intro e he
    rw [HT.out]
    have hOf := own_drew (own_set3 (own_setNew hO (p := ⟨w.heap.size, 2, none⟩) (by show w.heap.size < w1.heap.size; omega) (.slice A2 d.length c2)) (g := w.heap.size + 1) (by omega) (.int .u16 s) (.int .u32 51) (.slice A2 d.length c2))
    refine ⟨_, A2, c2, ((hk2.far (p := ⟨w.heap.size, 2, none⟩) (by exact fun h => hbm h.symm) (by simp [Value.ownBlock]; omega) _).set3 (fun h => hbr h.symm) (by simp [Value.ownBlock]; omega) _ _ _).drew, (((Fr.of_below hb2' b _).setNew (p := ⟨w.heap.size, 2, none⟩) (Nat.le_refl _) _).set3 (by omega) _ _ _).drew, .inl rfl, he, Byts.of_own hOf, own_cap hO, fun _ => own_mono hOf (by omega)⟩
  have HP := Lib.hid P
  clear P hO hb2 hk2 hb2' hk1 hk
  go_wp2_with fail
  go_region
  go_wp2
  exact bodyPost_ret (v := .tuple #[.agg #[.int .u16 s, .int .u32 51, .slice A2 d.length c2], .string cs[i].2, .int .i64 0]) (by simp [results, Try.results14, go_sem, r0, r1, r2]) rfl (HP.out _ rfl)

set_option maxHeartbeats 1000000 in
theorem c14_has53 (s : Int)  (A : Option Addr) (c : Nat) (d : List UInt8) (base b : Nat) (v : Value) (cs : List Ch) (w : World) (hk : Bk 59 74 w base b v cs) (hm : cs.length ≤ 8) (hi : ¬ idx s cs < 0) (hB : Byts w A d) (hl : d.length ≤ 140737488351232) :
    Calls Try.prog 14 #[.pointer (some ⟨b, 0, none⟩), .agg #[.int .u16 s, .int .u32 53, .slice A d.length c]] w (TkPost true 59 74 base b v (takeS cs s 53 d) w) := by
  obtain ⟨i, hi8, hidx, hla⟩ := idx_at hi
  have HT := Lib.hid (show takeS cs s 53 d = ⟨s, 53, d, cs[i].2, 0, cs⟩ by simp [takeS, hi, hla])
  have hlow : ¬ (i : Int) < 0 := by omega
  have Hl := Lib.hid hla
  have HBd := Lib.hid hB
  clear hi hla hB
  have hlt := hk.lt
  have hne := hk.ne_new (g := w.heap.size + 1) (by omega)
  go_enter Try.func14, Try.ntmps14
  go_wp2_with fail
  refine (c30 s base b v cs _ hm (hk.below ((((Below.refl _ _).alloc (Nat.le_refl _) _).alloc (by simp) _).alloc (by simp; omega) _) (Nat.le_refl _))).mono ?_
  rintro e w1 ⟨rfl, hb1⟩
  obtain ⟨hG0, hG1, hG2, hB, hs1⟩ := three_blks hb1
  have hk1 := hk.below hB (Nat.le_refl _)
  have HB := Lib.hid hB
  obtain ⟨m0, m1, m2, mf0, mf1, mf2, mlt⟩ := hG0.three
  obtain ⟨r0, r1, r2, rf0, rf1, rf2, rlt⟩ := hG1.three
  obtain ⟨z0, z1, z2, _, _, _, zlt⟩ := hG2.three
  clear hb1 hB
  rw [hidx]
  have hcl := clone A c d w1 (HBd.out.below HB.out (Nat.le_refl _)) (by omega)
  clear hidx
  go_wp2_with fail
  refine hcl.mono ?_
  rintro e w2 ⟨v2, rfl, hO, hb2⟩
  obtain ⟨A2, c2, rfl⟩ := own_form hO
  have hb2' := HB.out.trans (hb2.mono HB.out.size)
  have hk2 := hk1.below hb2 (Nat.le_refl _)
  obtain ⟨m0, m1, m2, mf0, mf1, mf2, mlt⟩ := (hG0.below hb2 (by omega)).three
  obtain ⟨r0, r1, r2, rf0, rf1, rf2, rlt⟩ := (hG1.below hb2 (by omega)).three
  obtain ⟨AB, capB, rfl, hrow⟩ := hk2.form
  obtain ⟨gB, rfl, hgB, hcell⟩ := hrow (by omega)
  obtain ⟨l0, l1⟩ := hcell i hi8
  have hbc := hk2.cell
  have hgw : gB < w.heap.size := (hk.own.lt gB rfl).2
  have hgm : gB ≠ w.heap.size := by omega
  have hgr : gB ≠ w.heap.size + 1 := by omega
  have hbm : b ≠ w.heap.size := by omega
  have hbr : b ≠ w.heap.size + 1 := by omega
  have hlt2 : (i : Int) < cs.length := by omega
  have h0i : (0 : Int) ≤ i := by omega
  clear hcell hrow hcl hG2 hG1 hG0 z0 z1 z2 zlt
  have P : ∀ e, e = .returned (.tuple #[.agg #[.int .u16 s, .int .u32 53, .slice A2 d.length c2], .string cs[i].2, .int .i64 0]) → TkPost true 59 74 base b (.slice (some ⟨gB, 0, none⟩) cs.length capB) (takeS cs s 53 d) w e (set3 (w2.setCell ⟨w.heap.size, 2, none⟩ (.slice A2 d.length c2)) (w.heap.size + 1) (.int .u16 s) (.int .u32 53) (.slice A2 d.length c2)).drew := by
    intro e he
    rw [HT.out]
    have hOf := own_drew (own_set3 (own_setNew hO (p := ⟨w.heap.size, 2, none⟩) (by show w.heap.size < w1.heap.size; omega) (.slice A2 d.length c2)) (g := w.heap.size + 1) (by omega) (.int .u16 s) (.int .u32 53) (.slice A2 d.length c2))
    refine ⟨_, A2, c2, ((hk2.far (p := ⟨w.heap.size, 2, none⟩) (by exact fun h => hbm h.symm) (by simp [Value.ownBlock]; omega) _).set3 (fun h => hbr h.symm) (by simp [Value.ownBlock]; omega) _ _ _).drew, (((Fr.of_below hb2' b _).setNew (p := ⟨w.heap.size, 2, none⟩) (Nat.le_refl _) _).set3 (by omega) _ _ _).drew, .inl rfl, he, Byts.of_own hOf, own_cap hO, fun _ => own_mono hOf (by omega)⟩
  have HP := Lib.hid P
  clear P hO hb2 hk2 hb2' hk1 hk
  go_wp2_with fail
  go_region
  go_wp2
  exact bodyPost_ret (v := .tuple #[.agg #[.int .u16 s, .int .u32 53, .slice A2 d.length c2], .string cs[i].2, .int .i64 0]) (by simp [results, Try.results14, go_sem, r0, r1, r2]) rfl (HP.out _ rfl)

set_option maxHeartbeats 1000000 in
theorem c14_ack_no (s : Int)  (A : Option Addr) (c : Nat) (d : List UInt8) (base b : Nat) (v : Value) (cs : List Ch) (w : World) (hk : Bk 59 74 w base b v cs) (hm : cs.length ≤ 8) (hi : idx s cs < 0) (hB : Byts w A d) (hd : d = [2]) :
    Calls Try.prog 14 #[.pointer (some ⟨b, 0, none⟩), .agg #[.int .u16 s, .int .u32 50, .slice A d.length c]] w (TkPost true 59 74 base b v (takeS cs s 50 d) w) := by
  have HT := Lib.hid (show takeS cs s 50 d = tkNo 7 cs by subst hd; simp [takeS, hi])
  have HBd := Lib.hid hB
  have Hd := Lib.hid hd
  clear hB hd
  have hlt := hk.lt
  have hne := hk.ne_new (g := w.heap.size + 1) (by omega)
  go_enter Try.func14, Try.ntmps14
  go_wp2_with fail
  refine (c30 s base b v cs _ hm (hk.below ((((Below.refl _ _).alloc (Nat.le_refl _) _).alloc (by simp) _).alloc (by simp; omega) _) (Nat.le_refl _))).mono ?_
  rintro e w1 ⟨rfl, hb1⟩
  obtain ⟨hG0, hG1, hG2, hB, hs1⟩ := three_blks hb1
  have hk1 := hk.below hB (Nat.le_refl _)
  have HB := Lib.hid hB
  obtain ⟨m0, m1, m2, mf0, mf1, mf2, mlt⟩ := hG0.three
  obtain ⟨r0, r1, r2, rf0, rf1, rf2, rlt⟩ := hG1.three
  obtain ⟨z0, z1, z2, _, _, _, zlt⟩ := hG2.three
  clear hb1 hB
  have hx := (Below.refl w1.heap.size w1).alloc (Nat.le_refl _) (.cells #[.int .u8 2] 5)
  have hcall := c32 A (some ⟨w1.heap.size, 0, none⟩) c 1 d [2] (w1.alloc (.cells #[.int .u8 2] 5)) ((HBd.out.below HB.out (Nat.le_refl _)).below hx (Nat.le_refl _)) (byts_new w1 [2])
  have HC := Lib.hid hcall
  have Hx := Lib.hid hx
  clear hx hcall
  go_wp2_with fail
  refine HC.out.mono ?_
  rintro e w2 ⟨rfl, hw2⟩
  have hx2 : Below w1.heap.size w1 w2 := by rw [← hw2]; exact Hx.out
  clear hw2
  have HB2 := Lib.hid (HB.out.trans (hx2.mono HB.out.size))
  have hk2 := hk1.below hx2 (Nat.le_refl _)
  obtain ⟨r0, r1, r2, rf0, rf1, rf2, rlt⟩ := (hG1.below hx2 (by omega)).three
  obtain ⟨z0, z1, z2, _, _, _, zlt⟩ := (hG2.below hx2 (by omega)).three
  have P := Lib.hid (TkPost.no (own := true) (e := .returned (.tuple #[.agg #[.int .u16 0, .int .u32 0, .slice none 0 0], .string ⟨#[]⟩, .int .i64 7])) HT.out (hk2.set3 (g := w.heap.size + 1) (by omega) hne (.int .u16 0) (.int .u32 0) (.slice none 0 0)) ((Fr.of_below HB2.out b v).set3 (by omega) _ _ _) (.inl rfl) rfl)
  clear hG0 hG1 hG2 hk1 hne hx2 hk2
  have hd2 : (d == [2]) = true := by rw [Hd.out]; rfl
  go_wp2
  exact bodyPost_ret (v := .tuple #[.agg #[.int .u16 0, .int .u32 0, .slice none 0 0], .string ⟨#[]⟩, .int .i64 7]) (by simp [results, Try.results14, go_sem, r0, r1, r2]) rfl P.out

set_option maxHeartbeats 1000000 in
theorem c14_ack_ok (s : Int)  (A : Option Addr) (c : Nat) (d : List UInt8) (base b : Nat) (v : Value) (cs : List Ch) (w : World) (hk : Bk 59 74 w base b v cs) (hm : cs.length ≤ 8) (hi : ¬ idx s cs < 0) (hB : Byts w A d) (hd : d = [2]) :
    Calls Try.prog 14 #[.pointer (some ⟨b, 0, none⟩), .agg #[.int .u16 s, .int .u32 50, .slice A d.length c]] w (TkPost true 59 74 base b v (takeS cs s 50 d) w) := by
  have HT := Lib.hid (show takeS cs s 50 d = tkNo 0 cs by subst hd; simp [takeS, hi])
  have HBd := Lib.hid hB
  have Hd := Lib.hid hd
  clear hB hd
  have hlow : 0 ≤ idx s cs := by omega
  have hlt := hk.lt
  have hne := hk.ne_new (g := w.heap.size + 1) (by omega)
  go_enter Try.func14, Try.ntmps14
  go_wp2_with fail
  refine (c30 s base b v cs _ hm (hk.below ((((Below.refl _ _).alloc (Nat.le_refl _) _).alloc (by simp) _).alloc (by simp; omega) _) (Nat.le_refl _))).mono ?_
  rintro e w1 ⟨rfl, hb1⟩
  obtain ⟨hG0, hG1, hG2, hB, hs1⟩ := three_blks hb1
  have hk1 := hk.below hB (Nat.le_refl _)
  have HB := Lib.hid hB
  obtain ⟨m0, m1, m2, mf0, mf1, mf2, mlt⟩ := hG0.three
  obtain ⟨r0, r1, r2, rf0, rf1, rf2, rlt⟩ := hG1.three
  obtain ⟨z0, z1, z2, _, _, _, zlt⟩ := hG2.three
  clear hb1 hB
  have hx := (Below.refl w1.heap.size w1).alloc (Nat.le_refl _) (.cells #[.int .u8 2] 5)
  have hcall := c32 A (some ⟨w1.heap.size, 0, none⟩) c 1 d [2] (w1.alloc (.cells #[.int .u8 2] 5)) ((HBd.out.below HB.out (Nat.le_refl _)).below hx (Nat.le_refl _)) (byts_new w1 [2])
  have HC := Lib.hid hcall
  have Hx := Lib.hid hx
  clear hx hcall
  go_wp2_with fail
  refine HC.out.mono ?_
  rintro e w2 ⟨rfl, hw2⟩
  have hx2 : Below w1.heap.size w1 w2 := by rw [← hw2]; exact Hx.out
  clear hw2
  have HB2 := Lib.hid (HB.out.trans (hx2.mono HB.out.size))
  have hk2 := hk1.below hx2 (Nat.le_refl _)
  obtain ⟨r0, r1, r2, rf0, rf1, rf2, rlt⟩ := (hG1.below hx2 (by omega)).three
  obtain ⟨z0, z1, z2, _, _, _, zlt⟩ := (hG2.below hx2 (by omega)).three
  have P := Lib.hid (TkPost.no (own := true) (e := .returned (.tuple #[.agg #[.int .u16 0, .int .u32 0, .slice none 0 0], .string ⟨#[]⟩, .int .i64 0])) HT.out (hk2.set3 (g := w.heap.size + 1) (by omega) hne (.int .u16 0) (.int .u32 0) (.slice none 0 0)) ((Fr.of_below HB2.out b v).set3 (by omega) _ _ _) (.inl rfl) rfl)
  clear hG0 hG1 hG2 hk1 hne hx2 hk2
  have hd2 : (d == [2]) = true := by rw [Hd.out]; rfl
  go_wp2
  exact bodyPost_ret (v := .tuple #[.agg #[.int .u16 0, .int .u32 0, .slice none 0 0], .string ⟨#[]⟩, .int .i64 0]) (by simp [results, Try.results14, go_sem, r0, r1, r2]) rfl P.out

set_option maxHeartbeats 1000000 in
theorem c14_form (s : Int)  (A : Option Addr) (c : Nat) (d : List UInt8) (base b : Nat) (v : Value) (cs : List Ch) (w : World) (hk : Bk 59 74 w base b v cs) (hm : cs.length ≤ 8) (hB : Byts w A d) (hl : d.length ≤ 140737488351232) (hd : d ≠ [2]) (hn : labS d = none) :
    Calls Try.prog 14 #[.pointer (some ⟨b, 0, none⟩), .agg #[.int .u16 s, .int .u32 50, .slice A d.length c]] w (TkPost true 59 74 base b v (takeS cs s 50 d) w) := by
  have HT := Lib.hid (show takeS cs s 50 d = tkNo 2 cs by simp [takeS, hd, hn])
  have HBd := Lib.hid hB
  have hd2 : (d == [2]) = false := by simpa using hd
  clear hB hd
  have hlt := hk.lt
  have hne := hk.ne_new (g := w.heap.size + 1) (by omega)
  go_enter Try.func14, Try.ntmps14
  go_wp2_with fail
  refine (c30 s base b v cs _ hm (hk.below ((((Below.refl _ _).alloc (Nat.le_refl _) _).alloc (by simp) _).alloc (by simp; omega) _) (Nat.le_refl _))).mono ?_
  rintro e w1 ⟨rfl, hb1⟩
  obtain ⟨hG0, hG1, hG2, hB, hs1⟩ := three_blks hb1
  have hk1 := hk.below hB (Nat.le_refl _)
  have HB := Lib.hid hB
  obtain ⟨m0, m1, m2, mf0, mf1, mf2, mlt⟩ := hG0.three
  obtain ⟨r0, r1, r2, rf0, rf1, rf2, rlt⟩ := hG1.three
  obtain ⟨z0, z1, z2, _, _, _, zlt⟩ := hG2.three
  clear hb1 hB
  have hx := (Below.refl w1.heap.size w1).alloc (Nat.le_refl _) (.cells #[.int .u8 2] 5)
  have hcall := c32 A (some ⟨w1.heap.size, 0, none⟩) c 1 d [2] (w1.alloc (.cells #[.int .u8 2] 5)) ((HBd.out.below HB.out (Nat.le_refl _)).below hx (Nat.le_refl _)) (byts_new w1 [2])
  have hcall2 := c33 A c d (w1.alloc (.cells #[.int .u8 2] 5)) ((HBd.out.below HB.out (Nat.le_refl _)).below hx (Nat.le_refl _)) hl
  have HB2 := Lib.hid (HB.out.trans (hx.mono HB.out.size))
  have hk2 := hk1.below hx (Nat.le_refl _)
  obtain ⟨m0, m1, m2, mf0, mf1, mf2, mlt⟩ := (hG0.below hx (by omega)).three
  have HC := Lib.hid hcall
  have HC2 := Lib.hid hcall2
  have Hx := Lib.hid hx
  clear hk1 hx hcall hcall2
  go_wp2_with fail
  refine HC.out.mono ?_
  rintro e w2 ⟨rfl, rfl⟩
  go_wp2_with fail
  refine HC2.out.mono ?_
  rintro e w3 ⟨x, rfl, hx2, hb3⟩
  rw [hn]
  have hk3 := hk2.below hb3 (Nat.le_refl _)
  have HB3 := Lib.hid (HB2.out.trans (hb3.mono HB2.out.size))
  obtain ⟨r0, r1, r2, rf0, rf1, rf2, rlt⟩ := (((hG1.below Hx.out (by omega)).below hb3 (by simp; omega))).three
  obtain ⟨z0, z1, z2, _, _, _, zlt⟩ := (((hG2.below Hx.out (by omega)).below hb3 (by simp; omega))).three
  have P := Lib.hid (TkPost.no (own := true) (e := .returned (.tuple #[.agg #[.int .u16 0, .int .u32 0, .slice none 0 0], .string ⟨#[]⟩, .int .i64 2])) HT.out (hk3.set3 (g := w.heap.size + 1) (by omega) hne (.int .u16 0) (.int .u32 0) (.slice none 0 0)) ((Fr.of_below HB3.out b v).set3 (by omega) _ _ _) (.inl rfl) rfl)
  clear hk2 hk3 hb3 hG0 hG1 hG2 hne hn hx2
  go_wp2
  exact bodyPost_ret (v := .tuple #[.agg #[.int .u16 0, .int .u32 0, .slice none 0 0], .string ⟨#[]⟩, .int .i64 2]) (by simp [results, Try.results14, go_sem, r0, r1, r2]) rfl P.out

set_option maxHeartbeats 1000000 in
theorem c14_full (s : Int)  (A : Option Addr) (c : Nat) (d : List UInt8) (base b : Nat) (v : Value) (cs : List Ch) (w : World) (hk : Bk 59 74 w base b v cs) (hm : cs.length ≤ 8) (hB : Byts w A d) (hl : d.length ≤ 140737488351232) (hd : d ≠ [2]) (y : ByteArray) (hn : labS d = some y) (hE : openE s y cs ≠ 0) :
    Calls Try.prog 14 #[.pointer (some ⟨b, 0, none⟩), .agg #[.int .u16 s, .int .u32 50, .slice A d.length c]] w (TkPost true 59 74 base b v (takeS cs s 50 d) w) := by
  have HT := Lib.hid (show takeS cs s 50 d = tkNo (openE s y cs) cs by simp [takeS, hd, hn, hE])
  have HE := Lib.hid hE
  have hEb : (openE s y cs == 0) = false := by simpa using hE
  clear hE
  have HBd := Lib.hid hB
  have hd2 : (d == [2]) = false := by simpa using hd
  clear hB hd
  have hlt := hk.lt
  have hne := hk.ne_new (g := w.heap.size + 1) (by omega)
  go_enter Try.func14, Try.ntmps14
  go_wp2_with fail
  refine (c30 s base b v cs _ hm (hk.below ((((Below.refl _ _).alloc (Nat.le_refl _) _).alloc (by simp) _).alloc (by simp; omega) _) (Nat.le_refl _))).mono ?_
  rintro e w1 ⟨rfl, hb1⟩
  obtain ⟨hG0, hG1, hG2, hB, hs1⟩ := three_blks hb1
  have hk1 := hk.below hB (Nat.le_refl _)
  have HB := Lib.hid hB
  obtain ⟨m0, m1, m2, mf0, mf1, mf2, mlt⟩ := hG0.three
  obtain ⟨r0, r1, r2, rf0, rf1, rf2, rlt⟩ := hG1.three
  obtain ⟨z0, z1, z2, _, _, _, zlt⟩ := hG2.three
  clear hb1 hB
  have hx := (Below.refl w1.heap.size w1).alloc (Nat.le_refl _) (.cells #[.int .u8 2] 5)
  have hcall := c32 A (some ⟨w1.heap.size, 0, none⟩) c 1 d [2] (w1.alloc (.cells #[.int .u8 2] 5)) ((HBd.out.below HB.out (Nat.le_refl _)).below hx (Nat.le_refl _)) (byts_new w1 [2])
  have hcall2 := c33 A c d (w1.alloc (.cells #[.int .u8 2] 5)) ((HBd.out.below HB.out (Nat.le_refl _)).below hx (Nat.le_refl _)) hl
  have HB2 := Lib.hid (HB.out.trans (hx.mono HB.out.size))
  have hk2 := hk1.below hx (Nat.le_refl _)
  obtain ⟨m0, m1, m2, mf0, mf1, mf2, mlt⟩ := (hG0.below hx (by omega)).three
  have HC := Lib.hid hcall
  have HC2 := Lib.hid hcall2
  have Hx := Lib.hid hx
  clear hk1 hx hcall hcall2
  go_wp2_with fail
  refine HC.out.mono ?_
  rintro e w2 ⟨rfl, rfl⟩
  go_wp2_with fail
  refine HC2.out.mono ?_
  rintro e w3 ⟨x, rfl, hx2, hb3⟩
  have hxy := hx2 y hn
  subst hxy
  rw [hn]
  have hk3 := hk2.below hb3 (Nat.le_refl _)
  have HB3 := Lib.hid (HB2.out.trans (hb3.mono HB2.out.size))
  obtain ⟨m0, m1, m2, mf0, mf1, mf2, mlt⟩ := (((hG0.below Hx.out (by omega)).below hb3 (by simp; omega))).three
  have hG0' := (hG0.below Hx.out (by omega)).below hb3 (by simp; omega)
  have hG1' := (hG1.below Hx.out (by omega)).below hb3 (by simp; omega)
  have hG2' := (hG2.below Hx.out (by omega)).below hb3 (by simp; omega)
  have hsz3 := hb3.size
  simp only [World.size_alloc] at hsz3
  clear hk2 hx2 hn hG1 hG2 hb3
  go_wp2_with fail
  refine (c22 s x base b v cs _ hm hk3).mono ?_
  rintro e w4 ⟨rfl, v', hk4, f, hat⟩
  rw [openC, if_neg HE.out] at hk4
  obtain ⟨r0, r1, r2, rf0, rf1, rf2, rlt⟩ := (hG1'.fr f (by omega) hne).three
  obtain ⟨z0, z1, z2, _, _, _, zlt⟩ := (hG2'.fr f (by omega) (hk.ne_new (by omega))).three
  have hv' : v'.ownBlock ≠ some (w.heap.size + 1) := by
    rcases hat with h | ⟨g, h, hg⟩
    · rw [h]; exact hne
    · rw [h]; simp; omega
  have P := Lib.hid (TkPost.no (own := true) (e := .returned (.tuple #[.agg #[.int .u16 0, .int .u32 0, .slice none 0 0], .string ⟨#[]⟩, .int .i64 (openE s x cs)])) HT.out (hk4.set3 (g := w.heap.size + 1) (by omega) hv' (.int .u16 0) (.int .u32 0) (.slice none 0 0)) ((Fr.after HB3.out f).set3 (by omega) _ _ _) (by
    rcases hat with h | ⟨g, h, hg⟩
    · exact .inl h
    · exact .inr ⟨g, h, by omega⟩) rfl)
  clear hk3 hk4 hG0 hG1' hG2' hne f hat hv' hk
  go_wp2
  exact bodyPost_ret (v := .tuple #[.agg #[.int .u16 0, .int .u32 0, .slice none 0 0], .string ⟨#[]⟩, .int .i64 (openE s x cs)]) (by simp [results, Try.results14, go_sem, r0, r1, r2]) rfl P.out

set_option maxHeartbeats 1000000 in
theorem c14_open (s : Int)  (A : Option Addr) (c : Nat) (d : List UInt8) (base b : Nat) (v : Value) (cs : List Ch) (w : World) (hk : Bk 59 74 w base b v cs) (hm : cs.length ≤ 8) (hB : Byts w A d) (hl : d.length ≤ 140737488351232) (hd : d ≠ [2]) (y : ByteArray) (hn : labS d = some y) (hE : openE s y cs = 0) :
    Calls Try.prog 14 #[.pointer (some ⟨b, 0, none⟩), .agg #[.int .u16 s, .int .u32 50, .slice A d.length c]] w (TkPost true 59 74 base b v (takeS cs s 50 d) w) := by
  have HT := Lib.hid (show takeS cs s 50 d = ⟨s, 50, [2], ⟨#[]⟩, 0, cs ++ [(s, y)]⟩ by simp [takeS, hd, hn, hE])
  have HE := Lib.hid hE
  have HBd := Lib.hid hB
  have hd2 : (d == [2]) = false := by simpa using hd
  clear hB hd
  have hlt := hk.lt
  have hne := hk.ne_new (g := w.heap.size + 1) (by omega)
  go_enter Try.func14, Try.ntmps14
  go_wp2_with fail
  refine (c30 s base b v cs _ hm (hk.below ((((Below.refl _ _).alloc (Nat.le_refl _) _).alloc (by simp) _).alloc (by simp; omega) _) (Nat.le_refl _))).mono ?_
  rintro e w1 ⟨rfl, hb1⟩
  obtain ⟨hG0, hG1, hG2, hB, hs1⟩ := three_blks hb1
  have hk1 := hk.below hB (Nat.le_refl _)
  have HB := Lib.hid hB
  obtain ⟨m0, m1, m2, mf0, mf1, mf2, mlt⟩ := hG0.three
  obtain ⟨r0, r1, r2, rf0, rf1, rf2, rlt⟩ := hG1.three
  obtain ⟨z0, z1, z2, _, _, _, zlt⟩ := hG2.three
  clear hb1 hB
  have hx := (Below.refl w1.heap.size w1).alloc (Nat.le_refl _) (.cells #[.int .u8 2] 5)
  have hcall := c32 A (some ⟨w1.heap.size, 0, none⟩) c 1 d [2] (w1.alloc (.cells #[.int .u8 2] 5)) ((HBd.out.below HB.out (Nat.le_refl _)).below hx (Nat.le_refl _)) (byts_new w1 [2])
  have hcall2 := c33 A c d (w1.alloc (.cells #[.int .u8 2] 5)) ((HBd.out.below HB.out (Nat.le_refl _)).below hx (Nat.le_refl _)) hl
  have HB2 := Lib.hid (HB.out.trans (hx.mono HB.out.size))
  have hk2 := hk1.below hx (Nat.le_refl _)
  obtain ⟨m0, m1, m2, mf0, mf1, mf2, mlt⟩ := (hG0.below hx (by omega)).three
  have HC := Lib.hid hcall
  have HC2 := Lib.hid hcall2
  have Hx := Lib.hid hx
  clear hk1 hx hcall hcall2
  go_wp2_with fail
  refine HC.out.mono ?_
  rintro e w2 ⟨rfl, rfl⟩
  go_wp2_with fail
  refine HC2.out.mono ?_
  rintro e w3 ⟨x, rfl, hx2, hb3⟩
  have hxy := hx2 y hn
  subst hxy
  rw [hn]
  have hk3 := hk2.below hb3 (Nat.le_refl _)
  have HB3 := Lib.hid (HB2.out.trans (hb3.mono HB2.out.size))
  obtain ⟨m0, m1, m2, mf0, mf1, mf2, mlt⟩ := (((hG0.below Hx.out (by omega)).below hb3 (by simp; omega))).three
  have hG0' := (hG0.below Hx.out (by omega)).below hb3 (by simp; omega)
  have hG1' := (hG1.below Hx.out (by omega)).below hb3 (by simp; omega)
  have hG2' := (hG2.below Hx.out (by omega)).below hb3 (by simp; omega)
  have hsz3 := hb3.size
  simp only [World.size_alloc] at hsz3
  clear hk2 hx2 hn hG1 hG2 hb3
  go_wp2_with fail
  refine (c22 s x base b v cs _ hm hk3).mono ?_
  rintro e w4 ⟨rfl, v', hk4, f, hat⟩
  rw [openC, if_pos HE.out] at hk4
  have h1 := hG1'.fr f (by omega) hne
  obtain ⟨r0, r1, r2, rf0, rf1, rf2, rlt⟩ := h1.three
  obtain ⟨q0, q1, q2⟩ := set3_cells (a := .int .u16 s) (b := .int .u32 50) (c := .slice (some ⟨w4.heap.size, 0, none⟩) 1 1) h1 (.cells #[.int .u8 2] 5)
  have Q := Lib.hid (And.intro q0 (And.intro q1 q2))
  clear q0 q1 q2
  obtain ⟨m0, m1, m2, mf0, mf1, mf2, mlt⟩ := (hG0'.fr f (by omega) (hk.ne_new (by omega))).three
  have hv' : v'.ownBlock ≠ some (w.heap.size + 1) := by
    rcases hat with h | ⟨g, h, hg⟩
    · rw [h]; exact hne
    · rw [h]; simp; omega
  have hz4 := f.size
  have P : ∀ e, e = .returned (.tuple #[.agg #[.int .u16 s, .int .u32 50, .slice (some ⟨w4.heap.size, 0, none⟩) 1 1], .string ⟨#[]⟩, .int .i64 0]) → TkPost true 59 74 base b v (takeS cs s 50 d) w e ((set3 w4 (w.heap.size + 1) (.int .u16 s) (.int .u32 50) (.slice (some ⟨w4.heap.size, 0, none⟩) 1 1)).alloc (.cells #[.int .u8 2] 5)) := by
    intro e he
    rw [HT.out]
    have hX : (set3 w4 (w.heap.size + 1) (.int .u16 s) (.int .u32 50) (.slice (some ⟨w4.heap.size, 0, none⟩) 1 1)).heap.size = w4.heap.size := by simp [set3, World.setCell]
    have hOf := own_new (w := set3 w4 (w.heap.size + 1) (.int .u16 s) (.int .u32 50) (.slice (some ⟨w4.heap.size, 0, none⟩) 1 1)) [2] (by simp)
    rw [hX] at hOf
    have hbX : Below (set3 w4 (w.heap.size + 1) (.int .u16 s) (.int .u32 50) (.slice (some ⟨w4.heap.size, 0, none⟩) 1 1)).heap.size (set3 w4 (w.heap.size + 1) (.int .u16 s) (.int .u32 50) (.slice (some ⟨w4.heap.size, 0, none⟩) 1 1)) ((set3 w4 (w.heap.size + 1) (.int .u16 s) (.int .u32 50) (.slice (some ⟨w4.heap.size, 0, none⟩) 1 1)).alloc (.cells #[.int .u8 2] 5)) := (Below.refl _ _).alloc (Nat.le_refl _) _
    refine ⟨v', some ⟨w4.heap.size, 0, none⟩, 1, (hk4.set3 (by omega) hv' _ _ _).below hbX (Nat.le_refl _), ((Fr.after HB3.out f).set3 (by omega) _ _ _).then_ hbX, ?_, he, Byts.of_own hOf, Nat.le_refl _, fun _ => own_mono hOf (by omega)⟩
    rcases hat with h | ⟨g, h, hg⟩
    · exact .inl h
    · exact .inr ⟨g, h, by omega⟩
  have HP := Lib.hid P
  clear P hk3 hk4 hG0 hG0' hG1' hG2' hne f hat hv' hk h1
  go_wp2
  obtain ⟨q0, q1, q2⟩ := Q.out
  exact bodyPost_ret (v := .tuple #[.agg #[.int .u16 s, .int .u32 50, .slice (some ⟨w4.heap.size, 0, none⟩) 1 1], .string ⟨#[]⟩, .int .i64 0]) (by simp [results, Try.results14, go_sem, q0, q1, q2]) rfl (HP.out _ rfl)

theorem c14 (s k : Int) (A : Option Addr) (c : Nat) (d : List UInt8) (base b : Nat) (v : Value) (cs : List Ch) (w : World) (hk : Bk 59 74 w base b v cs) (hm : cs.length ≤ 8) (hB : Byts w A d) (hl : d.length ≤ 140737488351232) :
    Calls Try.prog 14 #[.pointer (some ⟨b, 0, none⟩), .agg #[.int .u16 s, .int .u32 k, .slice A d.length c]] w (TkPost true 59 74 base b v (takeS cs s k d) w) := by
  by_cases h51 : k = 51
  · subst h51
    by_cases hi : idx s cs < 0
    · exact c14_none51 s A c d base b v cs w hk hm hi
    · exact c14_has51 s A c d base b v cs w hk hm hi hB hl
  · by_cases h53 : k = 53
    · subst h53
      by_cases hi : idx s cs < 0
      · exact c14_none53 s A c d base b v cs w hk hm hi
      · exact c14_has53 s A c d base b v cs w hk hm hi hB hl
    · by_cases h50 : k = 50
      · subst h50
        by_cases hd : d = [2]
        · by_cases hi : idx s cs < 0
          · exact c14_ack_no s A c d base b v cs w hk hm hi hB hd
          · exact c14_ack_ok s A c d base b v cs w hk hm hi hB hd
        · cases hn : labS d with
          | none => exact c14_form s A c d base b v cs w hk hm hB hl hd hn
          | some y =>
            by_cases hE : openE s y cs = 0
            · exact c14_open s A c d base b v cs w hk hm hB hl hd y hn hE
            · exact c14_full s A c d base b v cs w hk hm hB hl hd y hn hE
      · exact c14_other s k A c d base b v cs w hk hm h51 h53 h50
end Go.Proofs.Ytpfacfolocjidaa
