/- wire.Writer's methods, told of whatever bytes. -/
import Derived.Test.YtddopbbmgpnjjaaRd
import Derived.Test.YtddopbbmgpnjjaaMo
namespace Go.Proofs.Ytddopbbmgpnjjaa
open Go.RowKit
set_option linter.unusedSimpArgs false

section
variable {I : Img} {M : List Res} {w : World}
/-- what a writer's method does: bytes are appended -/
def Wrote (M : List Res) (p WT : Nat) (l : List UInt8) (v' : Value) (M' : List Res) : Prop := v' = .tuple #[] ∧ ∃ v2, M' = row 5 1 v2 l.length (bvs l) :: bk p WT #[v2] :: M
def u16B (x : Int) : List UInt8 := [byteOf (x / 256), byteOf (x % 256)]
def u32B (x : Int) : List UInt8 := [byteOf (x / 16777216), byteOf (x / 65536 % 256), byteOf (x / 256 % 256), byteOf (x % 256)]
set_option maxHeartbeats 1000000 in
theorem wU8 (p WT : Nat) (v : Value) (l : List UInt8) (x : Int) (hst : St I (row 5 1 v l.length (bvs l) :: bk p WT #[v] :: M) w) (hl : l.length ≤ 140737488351232) (hx : 0 ≤ x ∧ x < 256) :
    Calls Try.prog 49 #[.pointer (some ⟨p, 0, none⟩), .int .u8 x] w (Ret I (fun v' J M' => I = J ∧ Wrote M p WT (l ++ [byteOf x]) v' M')) := by
  obtain ⟨i0, hi, hz0, hz1, hz2⟩ := info_parts infoU8
  obtain ⟨hc, hf, hlt⟩ := (show Blk w p WT #[v] from hst.at 1 rfl).one
  obtain ⟨A, c, rfl⟩ := own_form (show w.ownsRow 0 5 1 v l.length (bvs l) from hst.head)
  have Hs := Lib.hid (hst.litSrc (P := Try.prog) (t := 60) (e := 5) (cs := #[.int .u8 x]) [byteOf x] (by simp [bvs, bv_byteOf hx.1 hx.2]) Try.underlying60)
  have H := Lib.hid (hst.grow (.cells #[.int .u8 x] 5))
  clear hst
  go_enter Try.func49, Try.ntmps49
  go_wp2_with (at_builtin; refine wpList_append_src _ rfl _ _ 60 60 rfl 0 5 i0 (.int .u8 0) 1 1 Try.underlying60 hi hz0 hz1 hz2 rfl _ l.length (bvs l) rfl H.out.head _ _ _ rfl Hs.out (by unfold maxLen; simp [u16B, u32B]; omega) (by simp [u16B, u32B]; omega) (Nat.zero_le _) ?_)
  intro v' w3 hown hgrow hat
  have hown2 : w3.ownsRow 0 5 1 v' (l ++ [byteOf x]).length (bvs (l ++ [byteOf x])) := by simpa [bvs_append] using hown
  have hs3 := H.out.grown hgrow hown2 (by simpa using hat)
  obtain ⟨A', c', rfl⟩ := own_form hown2
  obtain ⟨n2, hn2⟩ : ∃ n2, n2 = (l ++ [byteOf x]).length := ⟨_, rfl⟩
  rw [← hn2] at hs3 ⊢
  obtain ⟨hc3, hf3, hlt3⟩ := (show Blk w3 p WT _ from hs3.at 1 rfl).one
  have HS : Hid (St I (row 5 1 (.slice A' n2 c') n2 (bvs (l ++ [byteOf x])) :: bk p WT #[.slice A' n2 c'] :: M) (w3.setCell ⟨p, 0, none⟩ (.slice A' n2 c'))) := Lib.hid ((hs3.swap1.set 0 (.slice A' n2 c')).swap1)
  have HN := Lib.hid hn2
  clear hn2
  clear hown hown2 hgrow hat hs3 hc hf hlt H Hs
  go_wp2
  go_returns
  exact Ret.mk (.refl I) HS.out ⟨rfl, rfl, .slice A' n2 c', by rw [HN.out]⟩
set_option maxHeartbeats 1000000 in
theorem wU16 (p WT : Nat) (v : Value) (l : List UInt8) (x : Int) (hst : St I (row 5 1 v l.length (bvs l) :: bk p WT #[v] :: M) w) (hl : l.length ≤ 140737488351232) (hx : 0 ≤ x ∧ x ≤ 65535) :
    Calls Try.prog 52 #[.pointer (some ⟨p, 0, none⟩), .int .u16 x] w (Ret I (fun v' J M' => I = J ∧ Wrote M p WT (l ++ (u16B x)) v' M')) := by
  obtain ⟨i0, hi, hz0, hz1, hz2⟩ := info_parts infoU8
  obtain ⟨hc, hf, hlt⟩ := (show Blk w p WT #[v] from hst.at 1 rfl).one
  obtain ⟨A, c, rfl⟩ := own_form (show w.ownsRow 0 5 1 v l.length (bvs l) from hst.head)
  have Hs := Lib.hid (hst.litSrc (P := Try.prog) (t := 60) (e := 5) (cs := #[.int .u8 (x / 256), .int .u8 (x % 256)]) (u16B x) (by simp only [u16B, bvs, List.map_cons, List.map_nil]; rw [bv_byteOf (by omega) (by omega), bv_byteOf (by omega) (by omega)]) Try.underlying60)
  have H := Lib.hid (hst.grow (.cells #[.int .u8 (x / 256), .int .u8 (x % 256)] 5))
  clear hst
  go_enter Try.func52, Try.ntmps52
  go_wp2_with (at_builtin; refine wpList_append_src _ rfl _ _ 60 60 rfl 0 5 i0 (.int .u8 0) 1 1 Try.underlying60 hi hz0 hz1 hz2 rfl _ l.length (bvs l) rfl H.out.head _ _ _ rfl Hs.out (by unfold maxLen; simp [u16B, u32B]; omega) (by simp [u16B, u32B]; omega) (Nat.zero_le _) ?_)
  intro v' w3 hown hgrow hat
  have hown2 : w3.ownsRow 0 5 1 v' (l ++ (u16B x)).length (bvs (l ++ (u16B x))) := by simpa [bvs_append] using hown
  have hs3 := H.out.grown hgrow hown2 (by simpa using hat)
  obtain ⟨A', c', rfl⟩ := own_form hown2
  obtain ⟨n2, hn2⟩ : ∃ n2, n2 = (l ++ (u16B x)).length := ⟨_, rfl⟩
  rw [← hn2] at hs3 ⊢
  obtain ⟨hc3, hf3, hlt3⟩ := (show Blk w3 p WT _ from hs3.at 1 rfl).one
  have HS : Hid (St I (row 5 1 (.slice A' n2 c') n2 (bvs (l ++ (u16B x))) :: bk p WT #[.slice A' n2 c'] :: M) (w3.setCell ⟨p, 0, none⟩ (.slice A' n2 c'))) := Lib.hid ((hs3.swap1.set 0 (.slice A' n2 c')).swap1)
  have HN := Lib.hid hn2
  clear hn2
  clear hown hown2 hgrow hat hs3 hc hf hlt H Hs
  go_wp2
  go_returns
  exact Ret.mk (.refl I) HS.out ⟨rfl, rfl, .slice A' n2 c', by rw [HN.out]⟩
set_option maxHeartbeats 1000000 in
theorem wU32 (p WT : Nat) (v : Value) (l : List UInt8) (x : Int) (hst : St I (row 5 1 v l.length (bvs l) :: bk p WT #[v] :: M) w) (hl : l.length ≤ 140737488351232) (hx : 0 ≤ x ∧ x ≤ 4294967295) :
    Calls Try.prog 48 #[.pointer (some ⟨p, 0, none⟩), .int .u32 x] w (Ret I (fun v' J M' => I = J ∧ Wrote M p WT (l ++ (u32B x)) v' M')) := by
  obtain ⟨i0, hi, hz0, hz1, hz2⟩ := info_parts infoU8
  obtain ⟨hc, hf, hlt⟩ := (show Blk w p WT #[v] from hst.at 1 rfl).one
  obtain ⟨A, c, rfl⟩ := own_form (show w.ownsRow 0 5 1 v l.length (bvs l) from hst.head)
  have Hs := Lib.hid (hst.litSrc (P := Try.prog) (t := 60) (e := 5) (cs := #[.int .u8 (x / 16777216), .int .u8 (x / 65536 % 256), .int .u8 (x / 256 % 256), .int .u8 (x % 256)]) (u32B x) (by simp only [u32B, bvs, List.map_cons, List.map_nil]; rw [bv_byteOf (by omega) (by omega), bv_byteOf (by omega) (by omega), bv_byteOf (by omega) (by omega), bv_byteOf (by omega) (by omega)]) Try.underlying60)
  have H := Lib.hid (hst.grow (.cells #[.int .u8 (x / 16777216), .int .u8 (x / 65536 % 256), .int .u8 (x / 256 % 256), .int .u8 (x % 256)] 5))
  clear hst
  go_enter Try.func48, Try.ntmps48
  go_wp2_with (at_builtin; refine wpList_append_src _ rfl _ _ 60 60 rfl 0 5 i0 (.int .u8 0) 1 1 Try.underlying60 hi hz0 hz1 hz2 rfl _ l.length (bvs l) rfl H.out.head _ _ _ rfl Hs.out (by unfold maxLen; simp [u16B, u32B]; omega) (by simp [u16B, u32B]; omega) (Nat.zero_le _) ?_)
  intro v' w3 hown hgrow hat
  have hown2 : w3.ownsRow 0 5 1 v' (l ++ (u32B x)).length (bvs (l ++ (u32B x))) := by simpa [bvs_append] using hown
  have hs3 := H.out.grown hgrow hown2 (by simpa using hat)
  obtain ⟨A', c', rfl⟩ := own_form hown2
  obtain ⟨n2, hn2⟩ : ∃ n2, n2 = (l ++ (u32B x)).length := ⟨_, rfl⟩
  rw [← hn2] at hs3 ⊢
  obtain ⟨hc3, hf3, hlt3⟩ := (show Blk w3 p WT _ from hs3.at 1 rfl).one
  have HS : Hid (St I (row 5 1 (.slice A' n2 c') n2 (bvs (l ++ (u32B x))) :: bk p WT #[.slice A' n2 c'] :: M) (w3.setCell ⟨p, 0, none⟩ (.slice A' n2 c'))) := Lib.hid ((hs3.swap1.set 0 (.slice A' n2 c')).swap1)
  have HN := Lib.hid hn2
  clear hn2
  clear hown hown2 hgrow hat hs3 hc hf hlt H Hs
  go_wp2
  go_returns
  exact Ret.mk (.refl I) HS.out ⟨rfl, rfl, .slice A' n2 c', by rw [HN.out]⟩
set_option maxHeartbeats 1000000 in
theorem wBytes (p WT : Nat) (v : Value) (l : List UInt8) (B : Option Addr) (cb : Nat) (bs : List UInt8) (hst : St I (row 5 1 v l.length (bvs l) :: bk p WT #[v] :: M) w) (hl : l.length + bs.length ≤ 140737488351232) (hb : ∀ w2 N, St I N w2 → Src Try.prog 1 24 (.slice B bs.length cb) bs.length (bvs bs) w2) :
    Calls Try.prog 50 #[.pointer (some ⟨p, 0, none⟩), .slice B bs.length cb] w (Ret I (fun v' J M' => I = J ∧ Wrote M p WT (l ++ bs) v' M')) := by
  obtain ⟨i0, hi, hz0, hz1, hz2⟩ := info_parts infoU8
  obtain ⟨hc, hf, hlt⟩ := (show Blk w p WT #[v] from hst.at 1 rfl).one
  obtain ⟨A, c, rfl⟩ := own_form (show w.ownsRow 0 5 1 v l.length (bvs l) from hst.head)
  have Hs := Lib.hid (hb w _ hst)
  have H := Lib.hid (hst)
  clear hst
  go_enter Try.func50, Try.ntmps50
  go_wp2_with (at_builtin; refine wpList_append_src _ rfl _ _ 60 24 rfl 0 5 i0 (.int .u8 0) 1 1 Try.underlying60 hi hz0 hz1 hz2 rfl _ l.length (bvs l) rfl H.out.head _ _ _ rfl Hs.out (by unfold maxLen; simp [u16B, u32B]; omega) (by simp [u16B, u32B]; omega) (Nat.zero_le _) ?_)
  intro v' w3 hown hgrow hat
  have hown2 : w3.ownsRow 0 5 1 v' (l ++ bs).length (bvs (l ++ bs)) := by simpa [bvs_append] using hown
  have hs3 := H.out.grown hgrow hown2 (by simpa using hat)
  obtain ⟨A', c', rfl⟩ := own_form hown2
  obtain ⟨n2, hn2⟩ : ∃ n2, n2 = (l ++ bs).length := ⟨_, rfl⟩
  rw [← hn2] at hs3 ⊢
  obtain ⟨hc3, hf3, hlt3⟩ := (show Blk w3 p WT _ from hs3.at 1 rfl).one
  have HS : Hid (St I (row 5 1 (.slice A' n2 c') n2 (bvs (l ++ bs)) :: bk p WT #[.slice A' n2 c'] :: M) (w3.setCell ⟨p, 0, none⟩ (.slice A' n2 c'))) := Lib.hid ((hs3.swap1.set 0 (.slice A' n2 c')).swap1)
  have HN := Lib.hid hn2
  clear hn2
  clear hown hown2 hgrow hat hs3 hc hf hlt H Hs
  go_wp2
  go_returns
  exact Ret.mk (.refl I) HS.out ⟨rfl, rfl, .slice A' n2 c', by rw [HN.out]⟩
end
end Go.Proofs.Ytddopbbmgpnjjaa
