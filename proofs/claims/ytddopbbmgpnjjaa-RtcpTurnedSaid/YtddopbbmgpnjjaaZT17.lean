/- part. -/
import Derived.Test.YtddopbbmgpnjjaaZT16
namespace Go.Proofs.Ytddopbbmgpnjjaa
set_option linter.unusedSimpArgs false
open Go.RowKit
theorem X6 {n : Int} (h0 : 0 <= n) (h1 : n < 256) : ((byteOf n).toNat : Int) = n := by
 have := Yz h0 h1
 unfold bv at this
 injection this
theorem cut_app (a t : List UInt8) (n : Int) (hn : n = a.length) : Zl n (a ++ t, false) = (a, (t, false)) := by
 subst hn
 unfold Zl
 rw [if_neg (by simp; omega)]
 simp
theorem nm_u32 {x : Int} (h0 : 0 <= x) (h1 : x <= 4294967295) : ((YP (ZM x) : Nat) : Int) = x := by
 unfold ZM YP
 simp only [List.foldl_cons, List.foldl_nil]
 have a1 := X6 (n := x / 16777216) (by omega) (by omega)
 have a2 := X6 (n := x / 65536 % 256) (by omega) (by omega)
 have a3 := X6 (n := x / 256 % 256) (by omega) (by omega)
 have a4 := X6 (n := x % 256) (by omega) (by omega)
 omega
theorem nm_u16 {x : Int} (h0 : 0 <= x) (h1 : x <= 65535) : ((YP (Zi x) : Nat) : Int) = x := by
 unfold Zi YP
 simp only [List.foldl_cons, List.foldl_nil]
 have a1 := X6 (n := x / 256) (by omega) (by omega)
 have a2 := X6 (n := x % 256) (by omega) (by omega)
 omega
theorem nm_u8 {x : Int} (h0 : 0 <= x) (h1 : x <= 255) : ((YP [byteOf x] : Nat) : Int) = x := by
 unfold YP
 simp only [List.foldl_cons, List.foldl_nil]
 have a1 := X6 (n := x) (by omega) (by omega)
 omega
theorem YT (n : Int) (r : RS) (k : Nat) (hk : n <= k) : 0 <= ((YP (Zl n r).1 : Nat) : Int) /\ ((YP (Zl n r).1 : Nat) : Int) < ((256 ^ k : Nat) : Int) := by
 have h1 := numL_lt (Zl n r).1
 have h2 := cutS_len n r k hk
 have h3 : 256 ^ (Zl n r).1.length <= 256 ^ k := Nat.pow_le_pow_right (by decide) h2
 omega
def SeqNew (J0 : Zh) (M : List Zt) (J : Zh) (v : Value) : Prop := ∃ g n c cs, v = .slice (some ⟨g, 0, none⟩) n c /\ J.obj g = some (.cells cs 42 (0, 0)) /\ J0.obj g = none /\ ∀ r ∈ M, r.blk ≠ some g
def RdOk (I : Zh) (M : List Zt) (T : Pk -> Prop) (e : Ending) (w' : World) : Prop :=
 ∃ J pk vs, e = .returned (.agg (WU pk vs)) /\ I.le J /\ St J M w' /\ PkIn J pk vs /\ W9 pk /\ (pk.ZH = [] \/ SeqNew I M J vs.q) /\ ∀ p, T p -> pk = p
theorem XO (k a b : Int) (ha : 0 <= a /\ a <= 4294967295) (hb : 0 <= b /\ b <= 4294967295) : W9 (⟨k, a, b, 0, 0, 0, 0, [], ⟨#[]⟩, [], [], 0, 0, 0, [], []⟩ : Pk) := by
 refine ⟨ha, hb, ?_, ?_, ?_, ?_, ?_, ?_, ?_, ?_, ?_, ?_, ?_, ?_, ?_, ?_, ?_, ?_, ?_, ?_, ?_, ?_, ?_, ?_⟩ <;> first | (simp; done) | exact Nat.zero_le _
abbrev VH : Vs := ⟨YA, YA, YA, YA, YA⟩
theorem Xc (I : Zh) (k a b : Int) : PkIn I (⟨k, a, b, 0, 0, 0, 0, [], ⟨#[]⟩, [], [], 0, 0, 0, [], []⟩ : Pk) VH := ⟨Y4.nil I _, Y4.nil I _, Y4.nil I _, Y4.nil I _, Y4.nil I _⟩
theorem rd4 {x : Int} (hx : 0 <= x /\ x <= 4294967295) (t : List UInt8) : ((YP (Zl 4 (ZM x ++ t, false)).1 : Nat) : Int) = x /\ (Zl 4 (ZM x ++ t, false)).2 = (t, false) := by
 rw [cut_app (ZM x) t 4 rfl]
 exact ⟨nm_u32 hx.1 hx.2, rfl⟩
theorem rd2 {x : Int} (hx : 0 <= x /\ x <= 65535) (t : List UInt8) : ((YP (Zl 2 (Zi x ++ t, false)).1 : Nat) : Int) = x /\ (Zl 2 (Zi x ++ t, false)).2 = (t, false) := by
 rw [cut_app (Zi x) t 2 rfl]
 exact ⟨nm_u16 hx.1 hx.2, rfl⟩
theorem rd1 {x : Int} (hx : 0 <= x /\ x <= 255) (t : List UInt8) : ((YP (Zl 1 ([byteOf x] ++ t, false)).1 : Nat) : Int) = x /\ (Zl 1 ([byteOf x] ++ t, false)).2 = (t, false) := by
 rw [cut_app [byteOf x] t 1 rfl]
 exact ⟨nm_u8 hx.1 hx.2, rfl⟩
theorem VA {l : List UInt8} (h : l.length % 4 = 0) : YH l = l := by
 unfold YH
 rw [h]
 simp
theorem shape7 {p : Pk} (hg : Good p) (hk : p.kind = 7) : p = ⟨7, p.ZA, p.ZC, 0, 0, 0, 0, [], ⟨#[]⟩, [], [], 0, 0, 0, [], []⟩ /\ YH (Zu p) = ZM p.ZA ++ (ZM p.ZC ++ []) := by
 obtain ⟨kind, ZA, ZC, ZN, ZP, ZI, ZJ, ZE, name, ZG, ZH, base, ref, count, ZF, ZB⟩ := p
 simp only at hk
 subst hk
 have e := hg.2
 have e1 : (⟨7, ZA, ZC, ZN, ZP, ZI, ZJ, ZE, name, ZG, ZH, base, ref, count, ZF, ZB⟩ : Pk) = ⟨7, ZA, ZC, 0, 0, 0, 0, [], ⟨#[]⟩, [], [], 0, 0, 0, [], []⟩ := by
  rw [e]
  simp [YO]
 refine ⟨e1, ?_⟩
 rw [e1, VA] <;> simp [Zu, Xf, XG, Zy]
def mS (r : RS) : Nat := r.1.length + (if r.2 then 0 else 1)
theorem mS_cut {n : Int} {r : RS} (hn : 0 < n) (hb : r.2 = false) : mS (Zl n r).2 < mS r := by
 unfold mS Zl
 rw [hb]
 split
 ·simp
 rename_i h
 simp at h ⊢
 try omega
def rdM (w : World) (p : Nat) : Nat := match w.cell? ⟨p, 0, none⟩, w.cell? ⟨p, 1, none⟩ with
 | some (.slice _ n _), some (.bool bd) => n + (if bd then 0 else 1)
 | _, _ => 0
theorem Wu {I : Zh} {M : List Zt} {w : World} {p : Nat} {r : RS} {b : Zt} (h : Rdr I p r b) (hs : St I (b :: M) w) : rdM w p = mS r := by
 obtain ⟨A, c, rfl, _, _⟩ := h
 have hb : ZO w p _ #[.slice A r.1.length c, .bool r.2] := hs.head
 unfold rdM mS
 rw [hb.cell 0, hb.cell 1]
 rfl
def roCd (x : Nat × Nat × List UInt8) : Cd := ⟨x.1, x.2.1, Xy x.2.2⟩
theorem map_i (l : List (Nat × Nat × List UInt8)) : (l.map roCd).map (·.i) = l.map (·.1) := by rw [List.map_map]; rfl
theorem map_d (l : List (Nat × Nat × List UInt8)) : (l.map roCd).map (·.d) = l.map (·.2.1) := by rw [List.map_map]; rfl
section
variable {P : Program} {ops : Array Oper} {Q : Exit -> Act -> World -> Prop} {md : Region.Mode} {S : World -> Prop}
theorem WR {I : Zh} {M : List Zt} {a0 : Act} {L : Array Bool} {l : List (Nat × Nat × List UInt8)} {w0 : World} (fuel : Nat)
  (hok : setOk md ops L (l.map (·.1)) = true) (hnd : (l.map (·.2.1)).Nodup) (hni : (l.map (·.1)).Nodup)
  (hS : ∀ J w, I.le J -> St J M w -> S w) (ZX : St I M w0)
  (hstep : ∀ c ∈ l, YI P ops Q I M a0 (l.map (·.2.1)) (roCd c))
  (hend : ∀ (x : Nat -> Value) J w, I.le J -> St J M w -> (∀ c ∈ l, Xy c.2.2 (x c.2.1) J) -> wpAnyH P md ops Q S fuel (Zm (fun _ => true) (l.map (·.1)) L) (Act.over a0 (l.map (·.2.1)) x) w) :
  wpAnyH P md ops Q S (fuel + l.length) L a0 w0 := by
 have h := anyH_set (P := P) (ops := ops) (Q := Q) (md := md) (S := S) (I := I) (M := M) (a0 := a0) (L := L) (cs := l.map roCd) (fuel := fuel) (w0 := w0) (by rw [map_i]; exact hok) (by rw [map_d]; exact hnd) (by rw [map_i]; exact hni) hS ZX
  (fun c hc v J J' hl hv => by
   obtain ⟨y, _, rfl⟩ := List.mem_map.1 hc
   exact Xy.mono hv hl)
  (fun c hc => by
   obtain ⟨y, hy, rfl⟩ := List.mem_map.1 hc
   rw [map_d]
   exact hstep y hy)
  (fun x J w Z5 hs hx => by
   rw [map_i, map_d]
   exact hend x J w Z5 hs (fun c hc => hx (roCd c) (List.mem_map_of_mem hc)))
 rw [List.length_map] at h
 exact h
end
theorem newB_ro {J : Zh} {M : List Zt} {l : List UInt8} {e : Ending} {w' : World} (h : YR J (NewB J M l) e w') : ∃ v J', e = .returned v /\ J.le J' /\ St J' M w' /\ Xy l v J' := by
 obtain ⟨v, J1, M', rfl, _, hs, rfl, A, c, rfl, _, rfl⟩ := h
 obtain ⟨J2, Z5, YN, hb⟩ := hs.ZR
 exact ⟨_, J2, rfl, Z5, YN, A, c, rfl, hb⟩
def Frz (I : Zh) (M : List Zt) (l : List UInt8) (e : Ending) (w' : World) : Prop := ∃ v J', e = .returned v /\ I.le J' /\ St J' M w' /\ Xy l v J'
theorem Yk (J : Zh) (M : List Zt) (w : World) (x : Int) (hx : 0 <= x /\ x <= 4294967295) (hs : St J M w) : Calls Try.prog 36 #[.int .u32 x] w (Frz J M (ZM x)) :=
 (fourR J M w x hx hs).mono fun _ _ h => newB_ro h
theorem two_frz (J : Zh) (M : List Zt) (w : World) (x : Int) (hs : St J M w) : Calls Try.prog 39 #[.int .i64 x] w (Frz J M (Zi (x % 65536))) :=
 (twoR J M w x hs).mono fun _ _ h => newB_ro h
theorem wrap_u32 {x : Int} (h0 : 0 <= x) (h1 : x <= 4294967295) : IntKind.u32.wrap x = x := by
 simp only [IntKind.wrap, IntKind.signed, IntKind.bits]
 simp
 omega
theorem repL_eq (x : Rp) : YK x = ZM x.src ++ (ZM (x.lost * 16777216 + x.total) ++ (ZM x.high ++ (ZM x.Xw ++ (ZM x.last ++ ZM x.delay)))) := by
 unfold YK XG repN
 simp
set_option maxRecDepth 8000 in
set_option maxHeartbeats 8000000 in
theorem reportsR (I : Zh) (M : List Zt) (w : World) (A : Option Addr) (z : Nat) (l : List Rp) (hc : Cells I A (flat Yt l)) (hl : l.length <= 31) (hok : ∀ x ∈ l, RpOk x) (ZX : St I M w) :
  Calls Try.prog 37 #[.slice A l.length z] w (Frz I M (l.flatMap YK)) := by
 have HC := VL hc
 have HOK := VL hok
 have HS := VL ZX
 clear hc hok ZX
 go_enter Try.func37, Try.ntmps37
 go_upto_region 3 with fail
 go_loopw [3, 8] (fun ov iv wr => ∃ (i : Nat) (ov2 : Value), ov = ov2 /\ i <= l.length /\ iv = .int .i64 i /\ Hid (∃ J, I.le J /\ St J M wr /\ Xy ((l.take i).flatMap YK) ov2 J)) (fun _ iv _ => l.length - (intOf iv).toNat)
 case atStart => exact ⟨0, _, rfl, by omega, rfl, VL ⟨I, .refl I, HS.out, Xy.nil I⟩⟩
 case round =>
  obtain ⟨i, ov, rfl, hi, rfl, hh⟩ := hrel
  clear HS
  obtain ⟨J0, hle0, hs0, hro⟩ := hh.out
  clear hh
  by_cases Z0 : i < l.length
  ·skip
   obtain ⟨g, o, rfl, ZK⟩ := flat_get (s := 7) (fun _ => rfl) (HC.out.mono hle0) (by omega) (by decide)
   have hm := HOK.out _ (List.getElem_mem Z0)
   have hcl := ZK _ _ hs0 i Z0
   have HT := VL (Yr YK l i Z0)
   have HN := VL (Xl (f := YK) (s := 24) (n := 31) Za l i hl)
   clear ZK
   generalize l[i] = x at hm hcl HT
   generalize (l.take i).flatMap YK = acc at hro HT HN
   have y0 : wr.cell? ⟨g, o + i * 7, none⟩ = some (.int .u32 x.src) := hcl 0 (by decide)
   have y1 : wr.cell? ⟨g, o + i * 7 + 1, none⟩ = some (.int .u8 x.lost) := hcl 1 (by decide)
   have y2 : wr.cell? ⟨g, o + i * 7 + 2, none⟩ = some (.int .u32 x.total) := hcl 2 (by decide)
   have y3 : wr.cell? ⟨g, o + i * 7 + 3, none⟩ = some (.int .u32 x.high) := hcl 3 (by decide)
   have y4 : wr.cell? ⟨g, o + i * 7 + 4, none⟩ = some (.int .u32 x.Xw) := hcl 4 (by decide)
   have y5 : wr.cell? ⟨g, o + i * 7 + 5, none⟩ = some (.int .u32 x.last) := hcl 5 (by decide)
   have y6 : wr.cell? ⟨g, o + i * 7 + 6, none⟩ = some (.int .u32 x.delay) := hcl 6 (by decide)
   have hw1 : IntKind.u32.wrap x.lost = x.lost := wrap_u32 (by have := hm.lost; omega) (by have := hm.lost; omega)
   have hw2 : IntKind.u32.wrap (x.lost * 16777216) = x.lost * 16777216 := wrap_u32 (by have := hm.lost; omega) (by have := hm.lost; omega)
   have hor := or_rep hm.lost hm.total
   obtain ⟨b1, b2⟩ := hm.lost
   obtain ⟨b3, b4⟩ := hm.total
   have HM := VL hm
   have ZY := hs0.alloc 64 #[.int .u32 x.src, .int .u8 x.lost, .int .u32 x.total, .int .u32 x.high, .int .u32 x.Xw, .int .u32 x.last, .int .u32 x.delay]
   obtain ⟨q, hq⟩ : ∃ q, q = wr.heap.size := ⟨_, rfl⟩
   rw [<- hq] at ZY
   have HST := VL ZY
   have HLE := VL hle0
   obtain ⟨A0, c0, rfl, hb0⟩ := hro
   have HRO := VL hb0
   clear hs0 ZY hle0 hb0 hcl hm
   go_upto_region 6 with fail
   rw [<- hq]
   generalize World.alloc wr _ = W at HST ⊢
   clear y0 y1 y2 y3 y4 y5 y6 hq
   have YV := VL (fun (J : Zh) (w' : World) (_ : J0.le J) (hs : St J (bk q 64 #[.int .u32 x.src, .int .u8 x.lost, .int .u32 x.total, .int .u32 x.high, .int .u32 x.Xw, .int .u32 x.last, .int .u32 x.delay] :: M) w') => (show ∀ i, w'.cell? ⟨q, i, none⟩ = (#[.int .u32 x.src, .int .u8 x.lost, .int .u32 x.total, .int .u32 x.high, .int .u32 x.Xw, .int .u32 x.last, .int .u32 x.delay] : Array Value)[i]? from (ZO.all (hs.at 0 rfl)).1))
   refine wp_region_held_drew (S := fun w' => ∀ i, w'.cell? ⟨q, i, none⟩ = (#[.int .u32 x.src, .int .u8 x.lost, .int .u32 x.total, .int .u32 x.high, .int .u32 x.Xw, .int .u32 x.last, .int .u32 x.delay] : Array Value)[i]?) (by kernel_rfl) (YV.out _ _ (.refl _) HST.out.drew) (fun ZL => ?_)
   refine wh 0 rfl (by kernel_rfl) (fun _ _ _ h => h) rfl ‹_› (by intro w h;go_simp;try with_reducible rfl) ?_
   try go_frame
   refine wh 1 rfl (by kernel_rfl) (fun _ _ _ h => h) rfl ‹_› (by intro w h;go_simp;try with_reducible rfl) ?_
   try go_frame
   refine wh 2 rfl (by kernel_rfl) (fun _ _ _ h => h) rfl ‹_› (by intro w h;go_simp;try with_reducible rfl) ?_
   try go_frame
   refine wh 4 rfl (by kernel_rfl) (fun _ _ _ h => h) rfl ‹_› (by intro w h;go_simp;try with_reducible rfl) ?_
   try go_frame
   refine wh 5 rfl (by kernel_rfl) (fun _ _ _ h => h) rfl ‹_› (by intro w h;go_simp;try with_reducible rfl) ?_
   try go_frame
   refine wh 6 rfl (by kernel_rfl) (fun _ _ _ h => h) rfl ‹_› (by intro w h;go_simp;try with_reducible rfl) ?_
   try go_frame
   refine wh 7 rfl (by kernel_rfl) (fun _ _ _ h => h) rfl ‹_› (by intro w h;go_simp;try with_reducible rfl) ?_
   try go_frame
   refine wh 8 rfl (by kernel_rfl) (fun _ _ _ h => h) rfl ‹_› (by intro w h;go_simp;try with_reducible rfl) ?_
   try go_frame
   refine wh 9 rfl (by kernel_rfl) (fun _ _ _ h => h) rfl ‹_› (by intro w h;go_simp;try with_reducible rfl) ?_
   try go_frame
   refine wh 10 rfl (by kernel_rfl) (fun _ _ _ h => h) rfl ‹_› (by intro w h;go_simp;try with_reducible rfl) ?_
   try go_frame
   refine wh 12 rfl (by kernel_rfl) (fun _ _ _ h => h) rfl ‹_› (by intro w h;go_simp;try with_reducible rfl) ?_
   try go_frame
   refine wh 13 rfl (by kernel_rfl) (fun _ _ _ h => h) rfl ‹_› (by intro w h;go_simp;try with_reducible rfl) ?_
   try go_frame
   refine wh 15 rfl (by kernel_rfl) (fun _ _ _ h => h) rfl ‹_› (by intro w h;go_simp;try with_reducible rfl) ?_
   try go_frame
   refine wh 16 rfl (by kernel_rfl) (fun _ _ _ h => h) rfl ‹_› (by intro w h;go_simp;try with_reducible rfl) ?_
   try go_frame
   refine wh 18 rfl (by kernel_rfl) (fun _ _ _ h => h) rfl ‹_› (by intro w h;go_simp;try with_reducible rfl) ?_
   try go_frame
   refine wh 19 rfl (by kernel_rfl) (fun _ _ _ h => h) rfl ‹_› (by intro w h;go_simp;try with_reducible rfl) ?_
   try go_frame
   refine wh 21 rfl (by kernel_rfl) (fun _ _ _ h => h) rfl ‹_› (by intro w h;go_simp;try with_reducible rfl) ?_
   try go_frame
   refine wh 22 rfl (by kernel_rfl) (fun _ _ _ h => h) rfl ‹_› (by intro w h;go_simp;try with_reducible rfl) ?_
   try go_frame
   refine WR (I := J0) (M := bk q 64 #[.int .u32 x.src, .int .u8 x.lost, .int .u32 x.total, .int .u32 x.high, .int .u32 x.Xw, .int .u32 x.last, .int .u32 x.delay] :: M) (l := [(3, 18, ZM x.src), (11, 26, ZM (x.lost * 16777216 + x.total)), (14, 29, ZM x.high), (17, 32, ZM x.Xw), (20, 35, ZM x.last), (23, 38, ZM x.delay)]) 3 (by kernel_rfl) (by simp only [List.map_cons, List.map_nil]; decide) (by simp only [List.map_cons, List.map_nil]; decide) YV.out HST.out.drew ?_ ?_
   ·refine List.forall_mem_cons.2 ⟨?_, List.forall_mem_cons.2 ⟨?_, List.forall_mem_cons.2 ⟨?_, List.forall_mem_cons.2 ⟨?_, List.forall_mem_cons.2 ⟨?_, List.forall_mem_cons.2 ⟨?_, fun _ h => by cases h⟩⟩⟩⟩⟩⟩
    ·refine YI.call (o := _) rfl rfl rfl rfl (fun _ _ => rfl) ?_ (fun J w Z5 hs => (Yk J _ w (x.src) (⟨HM.out.src.1, by have := HM.out.src.2; omega⟩) hs).mono (fun _ _ h => h))
     intro xf; simp [Act.over, Zm, Act.eval, hw1, hw2, hor]
    ·refine YI.call (o := _) rfl rfl rfl rfl (fun _ _ => rfl) ?_ (fun J w Z5 hs => (Yk J _ w (x.lost * 16777216 + x.total) (by omega) hs).mono (fun _ _ h => h))
     intro xf; simp [Act.over, Zm, Act.eval, hw1, hw2, hor]
    ·refine YI.call (o := _) rfl rfl rfl rfl (fun _ _ => rfl) ?_ (fun J w Z5 hs => (Yk J _ w (x.high) (⟨HM.out.high.1, by have := HM.out.high.2; omega⟩) hs).mono (fun _ _ h => h))
     intro xf; simp [Act.over, Zm, Act.eval, hw1, hw2, hor]
    ·refine YI.call (o := _) rfl rfl rfl rfl (fun _ _ => rfl) ?_ (fun J w Z5 hs => (Yk J _ w (x.Xw) (⟨HM.out.Xw.1, by have := HM.out.Xw.2; omega⟩) hs).mono (fun _ _ h => h))
     intro xf; simp [Act.over, Zm, Act.eval, hw1, hw2, hor]
    ·refine YI.call (o := _) rfl rfl rfl rfl (fun _ _ => rfl) ?_ (fun J w Z5 hs => (Yk J _ w (x.last) (⟨HM.out.last.1, by have := HM.out.last.2; omega⟩) hs).mono (fun _ _ h => h))
     intro xf; simp [Act.over, Zm, Act.eval, hw1, hw2, hor]
    refine YI.call (o := _) rfl rfl rfl rfl (fun _ _ => rfl) ?_ (fun J w Z5 hs => (Yk J _ w (x.delay) (⟨HM.out.delay.1, by have := HM.out.delay.2; omega⟩) hs).mono (fun _ _ h => h))
    intro xf; simp [Act.over, Zm, Act.eval, hw1, hw2, hor]
   intro xf J w Z5 hs hx
   have r0 : Xy (ZM x.src) (xf 18) J := hx (3, 18, ZM x.src) (by simp)
   have r1 : Xy (ZM (x.lost * 16777216 + x.total)) (xf 26) J := hx (11, 26, ZM (x.lost * 16777216 + x.total)) (by simp)
   have r2 : Xy (ZM x.high) (xf 29) J := hx (14, 29, ZM x.high) (by simp)
   have r3 : Xy (ZM x.Xw) (xf 32) J := hx (17, 32, ZM x.Xw) (by simp)
   have r4 : Xy (ZM x.last) (xf 35) J := hx (20, 35, ZM x.last) (by simp)
   have r5 : Xy (ZM x.delay) (xf 38) J := hx (23, 38, ZM x.delay) (by simp)
   simp only [List.map_cons, List.map_nil, Act.over, Zm, List.foldl_cons, List.foldl_nil, List.setIfInBounds_toArray, List.set_cons_zero, List.set_cons_succ]
   generalize xf 18 = v18 at *
   obtain ⟨A18, c18, rfl, b18⟩ := r0
   generalize xf 26 = v26 at *
   obtain ⟨A26, c26, rfl, b26⟩ := r1
   generalize xf 29 = v29 at *
   obtain ⟨A29, c29, rfl, b29⟩ := r2
   generalize xf 32 = v32 at *
   obtain ⟨A32, c32, rfl, b32⟩ := r3
   generalize xf 35 = v35 at *
   obtain ⟨A35, c35, rfl, b35⟩ := r4
   generalize xf 38 = v38 at *
   obtain ⟨A38, c38, rfl, b38⟩ := r5
   clear hx
   refine wpAnyH_ready (rs := [24]) (by kernel_rfl) (by simp) ?_
   refine AllReadyH.cons (o := _) rfl (fun K hK => ?_) AllReadyH.nil
   go_simp
   try clear ZL
   refine hK.out _ _ (YV.out J _ Z5 (hs.grow _)) (fun ZL => ?_)
   clear hK K
   try go_frame
   obtain ⟨J2, Zd, YN, Z4⟩ := (hs.alloc 24 #[.slice A0 acc.length c0, .slice A18 (ZM x.src).length c18, .slice A26 (ZM (x.lost * 16777216 + x.total)).length c26, .slice A29 (ZM x.high).length c29, .slice A32 (ZM x.Xw).length c32, .slice A35 (ZM x.last).length c35, .slice A38 (ZM x.delay).length c38]).Zg
   have hcs := Cells.Yv Z4
   refine wpAnyH_ready (rs := [25]) (by kernel_rfl) (by simp) ?_
   refine AllReadyH.cons (o := _) rfl (fun K hK => ?_) AllReadyH.nil
   go_simp
   go_at_call 35
   refine (WC J2 (bk q 64 #[.int .u32 x.src, .int .u8 x.lost, .int .u32 x.total, .int .u32 x.high, .int .u32 x.Xw, .int .u32 x.last, .int .u32 x.delay] :: M) _ (some ⟨w.heap.size, 0, none⟩) 7 [acc, ZM x.src, ZM (x.lost * 16777216 + x.total), ZM x.high, ZM x.Xw, ZM x.last, ZM x.delay] [.slice A0 acc.length c0, .slice A18 (ZM x.src).length c18, .slice A26 (ZM (x.lost * 16777216 + x.total)).length c26, .slice A29 (ZM x.high).length c29, .slice A32 (ZM x.Xw).length c32, .slice A35 (ZM x.last).length c35, .slice A38 (ZM x.delay).length c38] hcs ⟨⟨A0, c0, rfl, (HRO.out.mono Z5).mono Zd⟩, ⟨A18, c18, rfl, b18.mono Zd⟩, ⟨A26, c26, rfl, b26.mono Zd⟩, ⟨A29, c29, rfl, b29.mono Zd⟩, ⟨A32, c32, rfl, b32.mono Zd⟩, ⟨A35, c35, rfl, b35.mono Zd⟩, ⟨A38, c38, rfl, b38.mono Zd⟩, trivial⟩ (by simp) (by have := HN.out; simp only [List.flatten_cons, List.flatten_nil, List.length_append, List.length_nil, Zy]; omega) YN).mono ?_
   rintro e w3 ⟨_, _, _, rfl, _, Zf, rfl, A3, c3, rfl, hc3, rfl⟩
   obtain ⟨fl, hfl⟩ : ∃ z : List UInt8, z = ([acc, ZM x.src, ZM (x.lost * 16777216 + x.total), ZM x.high, ZM x.Xw, ZM x.last, ZM x.delay] : List (List UInt8)).flatten := ⟨_, rfl⟩
   rw [<- hfl] at Zf hc3 ⊢
   have HFLAT := VL hfl
   clear hfl
   try clear ZL
   refine hK.out _ _ (YV.out J2 _ (Z5.trans Zd) Zf.drop) (fun ZL => ?_)
   clear hK K
   try go_frame
   refine wh 26 rfl (by kernel_rfl) (fun _ _ _ h => h) rfl ‹_› (by intro w h;go_simp;try with_reducible rfl) ?_
   try go_frame
   refine wpAnyH_done (by kernel_rfl) ?_ _
   obtain ⟨J3, YL, Zv, hb3⟩ := Zf.ZR
   have HF := VL (show St J3 M w3 from Zv.drop)
   have HLE3 := VL (((HLE.out.trans Z5).trans Zd).trans YL)
   have HB := VL hb3
   have HFL := VL (show (l.take (i + 1)).flatMap YK = fl by rw [HT.out, repL_eq, HFLAT.out]; simp)
   clear hs YN Zf Zv ZL HFLAT
   go_wp2
   go_roundw
   case rel =>
    refine ⟨i + 1, _, rfl, by omega, by go_num, VL ⟨J3, HLE3.out, HF.out, ?_⟩⟩
    rw [HFL.out]
    exact ⟨A3, c3, rfl, HB.out⟩
   case measure => simp [intOf]; omega
  have hin : i = l.length := by omega
  rw [List.take_of_length_le (by omega)] at hro
  obtain ⟨A9, c9, rfl, hb9⟩ := hro
  have HF := VL (show Frz I M (l.flatMap YK) (.returned (.slice A9 (l.flatMap YK).length c9)) wr from ⟨_, J0, rfl, hle0, hs0, A9, c9, rfl, hb9⟩)
  clear hs0 hb9
  go_wp2
  go_returns
  exact HF.out
theorem filter_drop {α : Type} (p : α -> Bool) : ∀ (r : List α), (∀ a b (_ : a < b) (hb : b < r.length), p r[b] = true -> p (r[a]'(by omega)) = true) ->
  ∃ m, m <= r.length /\ r.filter (fun x => !p x) = r.drop m /\ ∀ j (h : j < r.length), p r[j] = decide (j < m)
 | [], _ => ⟨0, Nat.le_refl _, rfl, fun _ h => absurd h (Nat.not_lt_zero _)⟩
 | x :: t, ha => by
  obtain ⟨m, hm, hf, hp⟩ := filter_drop p t (fun a b hab hb h => ha (a + 1) (b + 1) (by omega) (by simpa using hb) h)
  cases hx : p x
  ·have hn : ∀ j (h : j < t.length), p t[j] = false := fun j h => by
    cases e : p t[j]
    ·rfl
    have := ha 0 (j + 1) (by omega) (by simpa using h) e
    rw [List.getElem_cons_zero, hx] at this
    cases this
   refine ⟨0, Nat.zero_le _, ?_, fun j h => ?_⟩
   ·rw [List.filter_cons, hx]
    simp only [Bool.not_false, if_true, List.drop_zero]
    congr 1
    rw [List.filter_eq_self]
    intro y hy
    obtain ⟨j, hj, rfl⟩ := List.getElem_of_mem hy
    rw [hn j hj]; rfl
   cases j with
   | zero => rw [List.getElem_cons_zero, hx]; rfl
   | succ j => rw [List.getElem_cons_succ, hn j (by simpa using h)]; rfl
  refine ⟨m + 1, by simpa using hm, ?_, fun j h => ?_⟩
  ·rw [List.filter_cons, hx]
   simp only [Bool.not_true, Bool.false_eq_true, if_false, List.drop_succ_cons]
   exact hf
  cases j with
  | zero => rw [List.getElem_cons_zero, hx]; simp
  | succ j => rw [List.getElem_cons_succ, hp j (by simpa using h)]; simp
def We (l : List Int) (k : Nat) : Int := (l.getD k 0 - l.getD 0 0) % 65536
theorem farF_step {l : List Int} (h : Ord l) (k : Nat) (hk : k + 1 < l.length) : We l k < We l (k + 1) /\ We l (k + 1) < 32768 := by
 have h1 : ∀ j (_ : j < l.length), 0 < j -> 0 < We l j /\ We l j < 32768 := fun j hj h0 => by
  have := (h j hj h0).2
  unfold Yb at this
  simp only [Bool.and_eq_true, decide_eq_true_eq] at this
  unfold We
  rw [List.getD_eq_getElem?_getD, List.getD_eq_getElem?_getD, List.getElem?_eq_getElem hj, List.getElem?_eq_getElem (by omega)]
  exact this
 have h2 := (h (k + 1) hk (by omega)).1
 unfold Yb at h2
 simp only [Bool.and_eq_true, decide_eq_true_eq, Nat.add_sub_cancel] at h2
 have h3 := h1 (k + 1) hk (by omega)
 have h4 : 0 <= We l k /\ We l k < 32768 := by
  rcases Nat.eq_zero_or_pos k with e | e
  ·subst e; unfold We; omega
  have := h1 k (by omega) e; omega
 refine ⟨?_, h3.2⟩
 have e1 : l.getD k 0 = l[k]'(by omega) := by rw [List.getD_eq_getElem?_getD, List.getElem?_eq_getElem (by omega)]; rfl
 have e2 : l.getD (k + 1) 0 = l[k + 1] := by rw [List.getD_eq_getElem?_getD, List.getElem?_eq_getElem hk]; rfl
 unfold We at h3 h4 ⊢
 rw [e2] at h3 ⊢
 rw [e1] at h4 ⊢
 omega
theorem VI {l : List Int} (h : Ord l) (i : Nat) : ∀ (d : Nat), i + d + 1 < l.length -> We l i < We l (i + d + 1) /\ We l (i + d + 1) < 32768
 | 0, hk => farF_step h i hk
 | d + 1, hk => by
  have h1 := VI h i d (by omega)
  have h2 := farF_step h (i + d + 1) (by omega)
  have e9 : i + (d + 1) + 1 = i + d + 1 + 1 := by omega
  exact ⟨by rw [e9]; omega, h2.2⟩
theorem near_far {l : List Int} (h : Ord l) {i k : Nat} (hik : i < k) (hk : k < l.length) : Y7 (l[i]'(by omega)) l[k] = decide (We l k - We l i <= 16) := by
 obtain ⟨d, rfl⟩ : ∃ d, k = i + d + 1 := ⟨k - i - 1, by omega⟩
 have h1 := VI h i d hk
 have h2 : 0 <= We l i := by unfold We; omega
 have e1 : l.getD i 0 = l[i]'(by omega) := by rw [List.getD_eq_getElem?_getD, List.getElem?_eq_getElem (by omega)]; rfl
 have e2 : l.getD (i + d + 1) 0 = l[i + d + 1] := by rw [List.getD_eq_getElem?_getD, List.getElem?_eq_getElem hk]; rfl
 unfold Y7 dst
 unfold We at h1 h2 ⊢
 rw [e2] at h1 ⊢
 rw [e1] at h1 h2 ⊢
 rw [Bool.eq_iff_iff]
 simp only [decide_eq_true_eq]
 omega
theorem far_cut {l : List Int} (h : Ord l) (c : Nat) (hc : c < l.length) :
  ∃ c', c < c' /\ c' <= l.length /\ X0 l[c] (l.drop (c + 1)) = l.drop c' /\ ∀ k (hk : k < l.length), c < k -> Y7 l[c] l[k] = decide (k < c') := by
 obtain ⟨m, hm, hf, hp⟩ := filter_drop (Y7 l[c]) (l.drop (c + 1)) (fun a b hab hb hn => by
  rw [List.getElem_drop, near_far h (by omega) (by rw [List.length_drop] at hb; omega)] at hn ⊢
  simp only [decide_eq_true_eq] at hn ⊢
  rw [List.length_drop] at hb
  have := VI h (c + 1 + a) (b - a - 1) (by omega)
  have e : c + 1 + a + (b - a - 1) + 1 = c + 1 + b := by omega
  rw [e] at this
  omega)
 rw [List.length_drop] at hm
 refine ⟨c + 1 + m, by omega, by omega, ?_, fun k hk hck => ?_⟩
 ·unfold X0
  rw [hf, List.drop_drop]
 have h2 := hp (k - (c + 1)) (by rw [List.length_drop]; omega)
 rw [List.getElem_drop] at h2
 have e : c + 1 + (k - (c + 1)) = k := by omega
 simp only [e] at h2
 rw [h2]
 congr 1
 exact propext ⟨fun _ => by omega, fun _ => by omega⟩
theorem pieces_drop {l : List Int} {c c' : Nat} (hc : c < l.length) (hf : X0 l[c] (l.drop (c + 1)) = l.drop c') : YG (l.drop c) = XJ (l[c], XL l[c] (l.drop (c + 1))) ++ YG (l.drop c') := by
 rw [List.drop_eq_getElem_cons hc, VF, hf]
theorem or_u16 (a b : Nat) (ha : a < 65536) (hb : b < 65536) : bits BinOp.or IntKind.u16 (a : Int) (b : Int) = ((a ||| b : Nat) : Int) := by
 have h := Nat.or_lt_two_pow (n := 16) (by simpa using ha) (by simpa using hb)
 have e2 : (BitVec.ofInt 16 (a : Int)).toNat = a := by rw [BitVec.ofInt_natCast, BitVec.toNat_ofNat]; exact Nat.mod_eq_of_lt (by omega)
 have e3 : (BitVec.ofInt 16 (b : Int)).toNat = b := by rw [BitVec.ofInt_natCast, BitVec.toNat_ofNat]; exact Nat.mod_eq_of_lt (by omega)
 show IntKind.u16.wrap ((BitVec.ofInt 16 (a : Int) ||| BitVec.ofInt 16 (b : Int)).toNat : Int) = _
 rw [BitVec.toNat_or, e2, e3]
 simp only [IntKind.wrap, IntKind.signed, IntKind.bits]
 show ((a ||| b : Nat) : Int) % 65536 = _
 omega
theorem or_i64 (a b : Nat) (ha : a < 65536) (hb : b < 65536) : bits BinOp.or IntKind.i64 (a : Int) (b : Int) = ((a ||| b : Nat) : Int) := by
 have h := Nat.or_lt_two_pow (n := 16) (by simpa using ha) (by simpa using hb)
 have e2 : (BitVec.ofInt 64 (a : Int)).toNat = a := by rw [BitVec.ofInt_natCast, BitVec.toNat_ofNat]; exact Nat.mod_eq_of_lt (by omega)
 have e3 : (BitVec.ofInt 64 (b : Int)).toNat = b := by rw [BitVec.ofInt_natCast, BitVec.toNat_ofNat]; exact Nat.mod_eq_of_lt (by omega)
 show IntKind.i64.wrap ((BitVec.ofInt 64 (a : Int) ||| BitVec.ofInt 64 (b : Int)).toNat : Int) = _
 rw [BitVec.toNat_or, e2, e3]
 exact wrap_i64 (by omega) (by omega)
theorem bit_same {s x m : Int} (hm : 0 <= m /\ m <= 65535) (hn : Y7 s x = true) : bits BinOp.or IntKind.i64 m (2 ^ (dst s x).toNat) = VE s x m := by
 obtain ⟨a, rfl⟩ := Int.eq_ofNat_of_zero_le hm.1
 have h1 := dst_ok s x
 unfold Y7 at hn
 simp only [decide_eq_true_eq] at hn
 obtain ⟨e, he⟩ : ∃ e : Nat, e = (dst s x).toNat := ⟨_, rfl⟩
 unfold VE
 rw [<- he]
 have h2 : 2 ^ e < 65536 := by
  have : 2 ^ e <= 2 ^ 15 := Nat.pow_le_pow_right (by decide) (by omega)
  omega
 have h3 : ((2 : Int) ^ e) = ((2 ^ e : Nat) : Int) := by simp
 rw [h3]
 generalize (2 ^ e : Nat) = p at h2 ⊢
 rw [Y9, or_i64 a _ (by omega) h2]
 have h4 : (p : Int) % 65536 = (p : Int) := by omega
 rw [h4, or_u16 a _ (by omega) h2]
def boC (tl : List Bool) : Array Value := (tl.map Value.bool).toArray
theorem boC_get (tl : List Bool) (k : Nat) (h : k < tl.length) : (boC tl)[k]? = some (.bool tl[k]) := by
 simp [boC, h]
theorem boC_set (tl : List Bool) (k : Nat) : (boC tl).setIfInBounds k (.bool true) = boC (tl.set k true) := by
 simp [boC, List.map_set]
theorem made_false (n : Nat) : madeCells (Value.bool false).cells n = boC (List.replicate n false) := by
 apply Array.ext
 ·rw [size_madeCells]; simp [boC]
 intro i h1 h2
 simp [madeCells, Value.cells, boC, Nat.mod_one]
theorem info4 : (Try.prog.info? 4).map (fun i => (i.zero, i.size, i.bytes)) = some (some (.bool false), 1, 1) := by kernel_rfl
theorem mkB (w : World) (n : Nat) (hn : n <= 255) : (Instr.makeSlice 117 (.int .i64 (n : Int)) (.int .i64 (n : Int))).run Try.prog w = .ok (.slice (some ⟨w.heap.size, 0, none⟩) n n) (w.alloc (.cells (boC (List.replicate n false)) 4)) := by
 obtain ⟨i0, hi, hz0, hz1, hz2⟩ := info_parts info4
 have h := run_makeSlice (P := Try.prog) w 117 4 i0 (.bool false) Try.underlying117 hi hz0 .i64 .i64 n n (by omega) (by omega) (by rw [hz1]; simp; omega) (by rw [hz2]; omega) (by omega)
 rw [h, hz1, Nat.mul_one, Int.toNat_natCast, made_false]
theorem VB {x : Int} (h0 : -9223372036854775808 <= x) (h1 : x <= 9223372036854775807) : wrap64 x = x := by
 unfold wrap64
 omega
theorem nothing_near {tl : List Bool} {ls : List Int} {i k : Nat} {s x m : Int} {hk : k < ls.length} (h : Hid ((∀ j (hj : j < tl.length) (hj2 : j < ls.length), i < j -> tl[j] = (decide (j < k) && Y7 s ls[j])) /\ (XL s ((ls.drop (i + 1)).take (k + 1 - (i + 1))) = if Y7 s ls[k] = true then VE s ls[k] m else m) /\ x = ls[k] /\ 0 <= m /\ m <= 65535)) (hn : Y7 s x = false) :
  m = XL s ((ls.drop (i + 1)).take (k + 1 - (i + 1))) /\ ∀ j (hj : j < tl.length) (hj2 : j < ls.length), i < j -> tl[j] = (decide (j < k + 1) && Y7 s ls[j]) := by
 obtain ⟨h1, h2, rfl, _⟩ := h.out
 refine ⟨by rw [h2, hn]; rfl, fun j hj hj2 hij => ?_⟩
 rw [h1 j hj hj2 hij]
 by_cases e : j = k
 ·subst e; rw [hn]; simp
 congr 1; exact decide_eq_decide.2 ⟨fun _ => by omega, fun _ => by omega⟩
theorem some_near {tl : List Bool} {ls : List Int} {i k : Nat} {s x m : Int} {hk : k < ls.length} (h : Hid ((∀ j (hj : j < tl.length) (hj2 : j < ls.length), i < j -> tl[j] = (decide (j < k) && Y7 s ls[j])) /\ (XL s ((ls.drop (i + 1)).take (k + 1 - (i + 1))) = if Y7 s ls[k] = true then VE s ls[k] m else m) /\ x = ls[k] /\ 0 <= m /\ m <= 65535)) (hn : Y7 s x = true) :
  VE s x m = XL s ((ls.drop (i + 1)).take (k + 1 - (i + 1))) /\ ∀ j (hj : j < (tl.set k true).length) (hj2 : j < ls.length), i < j -> (tl.set k true)[j] = (decide (j < k + 1) && Y7 s ls[j]) := by
 obtain ⟨h1, h2, rfl, _⟩ := h.out
 refine ⟨by rw [h2, hn]; rfl, fun j hj hj2 hij => ?_⟩
 rw [List.getElem_set]
 by_cases e : k = j
 ·subst e; rw [hn]; simp
 rw [if_neg e, h1 j (by rw [List.length_set] at hj; exact hj) hj2 hij]
 congr 1; exact decide_eq_decide.2 ⟨fun _ => by omega, fun _ => by omega⟩
set_option maxRecDepth 8000 in
set_option maxHeartbeats 8000000 in
theorem piecesR (I : Zh) (M : List Zt) (w : World) (A : Option Addr) (z : Nat) (l : List Int) (hc : Cells I A (flat Yp l)) (Zw : ∀ x ∈ l, 0 <= x /\ x <= 65535) (hl : l.length <= 32) (hord : Ord l) (ZX : St I M w) :
  Calls Try.prog 38 #[.slice A l.length z] w (Frz I M (YG l)) := by
 have HC := VL hc
 have HRN := VL Zw
 have HO := VL hord
 have ZY := ZX.alloc 4 (boC (List.replicate l.length false))
 obtain ⟨q, hq⟩ : ∃ q, q = w.heap.size := ⟨_, rfl⟩
 rw [<- hq] at ZY
 have HS := VL ZY
 have hmk := mkB w l.length (by omega)
 clear hc Zw hord ZX ZY
 go_enter Try.func38, Try.ntmps38
 go_upto_region 4 with fail
 rw [<- hq]
 generalize World.alloc w _ = W at HS ⊢
 clear hmk hq
 go_loopw [3, 14] (fun ov iv wr => ∃ (i : Nat) (A0 : Option Addr) (c0 : Nat) (acc : List UInt8), ov = .slice A0 acc.length c0 /\ i <= l.length /\ iv = .int .i64 i /\ Hid (∃ (J : Zh) (c : Nat) (tl : List Bool), I.le J /\ St J (bk q 4 (boC tl) :: M) wr /\ Zq J A0 acc /\ acc ++ YG (l.drop c) = YG l /\ (i <= c /\ c <= l.length) /\ tl.length = l.length /\ ∀ k (hk : k < tl.length), i <= k -> tl[k] = decide (k < c))) (fun _ iv _ => l.length - (intOf iv).toNat)
 case atStart => exact ⟨0, none, 0, [], rfl, by omega, rfl, VL ⟨I, 0, List.replicate l.length false, .refl I, HS.out, Zq.nil _ _, by simp, ⟨Nat.le_refl _, Nat.zero_le _⟩, by simp, fun k hk _ => by simp⟩⟩
 case round =>
  obtain ⟨i, A0, c0, acc, rfl, hi, rfl, hh⟩ := hrel
  clear HS
  obtain ⟨J0, c, tl, hle0, hs0, hb0, hpc, ⟨hic, hcn⟩, htl, htd⟩ := hh.out
  clear hh
  by_cases Z0 : i < l.length
  ·skip
   obtain ⟨hcq, hfq, hlq⟩ := ZO.all (hs0.at 0 rfl)
   have hti := htd i (by omega) (Nat.le_refl _)
   have y0 : wr.cell? ⟨q, i, none⟩ = some (.bool tl[i]) := by rw [hcq, boC_get tl i (by omega)]
   by_cases hci : i < c
   ·rw [hti, decide_eq_true hci] at y0
    have HF := VL (show ∃ (J : Zh) (c : Nat) (tl : List Bool), I.le J /\ St J (bk q 4 (boC tl) :: M) wr /\ Zq J A0 acc /\ acc ++ YG (l.drop c) = YG l /\ (i + 1 <= c /\ c <= l.length) /\ tl.length = l.length /\ ∀ k (hk : k < tl.length), i + 1 <= k -> tl[k] = decide (k < c) from ⟨J0, c, tl, hle0, hs0, hb0, hpc, ⟨by omega, hcn⟩, htl, fun k hk h => htd k hk (by omega)⟩)
    clear hs0 hb0 hpc htd hcq hfq hti
    go_wp2
    go_roundw
    case rel => exact ⟨i + 1, A0, c0, acc, rfl, by omega, by go_num, HF⟩
    case measure => simp [intOf]; omega
   have hice : i = c := by omega
   subst hice
   rw [hti, decide_eq_false hci] at y0
   obtain ⟨c', hcc, hcn', hfar, hnear⟩ := far_cut HO.out i Z0
   have HPD := VL (pieces_drop Z0 hfar)
   have HNR := VL hnear
   have HPC := VL hpc
   have HLE := VL hle0
   have HB0 := VL hb0
   have HT0 := VL htd
   have HS0 := VL hs0
   obtain ⟨g, o, rfl, ZK⟩ := flat_get (s := 1) (fun _ => rfl) (HC.out.mono hle0) (by omega) (by decide)
   have HCL := VL ZK
   obtain ⟨s, hse⟩ : ∃ s, s = l[i] := ⟨_, rfl⟩
   have Yu := HRN.out _ (List.getElem_mem Z0)
   rw [<- hse] at HPD HNR Yu
   have ys : ∀ (M' : List Zt) (w' : World), St J0 M' w' -> w'.cell? ⟨g, o + i, none⟩ = some (.int .u16 s) := fun M' w' h => by
    have := ZK M' w' h i Z0 0 (by decide)
    rw [hse]
    simpa using this
   have HYS := VL ys
   obtain ⟨ZY, YN⟩ := Yu
   clear hs0 hb0 hpc htd hcq hfq hti hfar hnear hle0 ZK hse ys
   go_upto_region 9 with fail
   clear y0 hlq
   go_loopw [6, 7] (fun mv kv wr' => ∃ (k : Nat) (m : Int), mv = .int .i64 m /\ kv = .int .i64 k /\ i + 1 <= k /\ k <= l.length /\ Hid (m = XL s ((l.drop (i + 1)).take (k - (i + 1))) /\ ∃ tl2 : List Bool, tl2.length = l.length /\ St J0 (bk q 4 (boC tl2) :: M) wr' /\ ∀ j (hj : j < tl2.length) (hj2 : j < l.length), i < j -> tl2[j] = (decide (j < k) && Y7 s l[j]))) (fun _ kv _ => l.length - (intOf kv).toNat)
   case atStart => exact ⟨i + 1, 0, rfl, by go_num, by omega, by omega, VL ⟨by simp [XL], tl, htl, HS0.out, fun j hj hj2 hij => by rw [HT0.out j hj (by omega), decide_eq_false (by omega), decide_eq_false (by omega)]; rfl⟩⟩
   case round =>
    obtain ⟨k, m, rfl, rfl, hik, hkn, hh⟩ := hrel
    obtain ⟨hm, tl2, htl2, hsk, htk⟩ := hh.out
    clear hh
    by_cases hkl : k < l.length
    ·skip
     have yk : wr.cell? ⟨g, o + k, none⟩ = some (.int .u16 l[k]) := by
      have := HCL.out _ _ hsk k hkl 0 (by decide)
      simpa using this
     have ys := HYS.out _ _ hsk
     have hxr := HRN.out _ (List.getElem_mem hkl)
     have htake : (l.drop (i + 1)).take (k + 1 - (i + 1)) = (l.drop (i + 1)).take (k - (i + 1)) ++ [l[k]] := by
      have e : k + 1 - (i + 1) = k - (i + 1) + 1 := by omega
      rw [e, List.take_succ_eq_append_getElem (by rw [List.length_drop]; omega), List.getElem_drop]
      congr 3
      omega
     have hms := maskL_snoc s ((l.drop (i + 1)).take (k - (i + 1))) l[k]
     rw [<- htake, <- hm] at hms
     have hmr := maskL_ok s ((l.drop (i + 1)).take (k - (i + 1)))
     rw [<- hm] at hmr
     obtain ⟨x, hxe⟩ : ∃ x, x = l[k] := ⟨_, rfl⟩
     have HTK := VL (And.intro htk (And.intro hms (And.intro hxe hmr)))
     rw [<- hxe] at yk hxr hms
     obtain ⟨hx1, hx2⟩ := hxr
     obtain ⟨hm1, hm2⟩ := hmr
     have HSK := VL hsk
     clear hsk htk htake hxe hm hms
     obtain ⟨D, hD⟩ : ∃ D, D = IntKind.u16.wrap (x - s) := ⟨_, rfl⟩
     have hDm : D = (x - s) % 65536 := by rw [hD, Y9]
     have hD1 : 0 <= D := by omega
     have hD2 : D <= 65535 := by omega
     have hnb : Y7 s x = (decide (1 <= D) && decide (D <= 16)) := by
      unfold Y7 dst
      rw [Bool.eq_iff_iff]
      simp only [Bool.and_eq_true, decide_eq_true_eq]
      omega
     have hdd : 1 <= D -> (dst s x).toNat = (D - 1).toNat := fun h => by unfold dst; congr 1; omega
     have HD := VL (And.intro hDm (And.intro hnb hdd))
     replace hD := hD.symm
     clear hDm hnb hdd
     go_upto_region 11 with fail
     go_quiet (fail)
     have HS1 := VL (HSK.out.drewN nq)
     generalize World.drewN wr nq = W2 at HS1 ⊢
     clear HSK yk ys hD
     by_cases hn0 : D < 1
     ·skip
      have hnx : Y7 s x = false := by rw [HD.out.2.1, decide_eq_false (by omega)]; rfl
      have HR := VL (nothing_near (tl := tl2) HTK hnx)
      go_wp2
      go_roundw
      case rel => exact ⟨k + 1, m, rfl, by go_num, by omega, by omega, VL ⟨HR.out.1, tl2, htl2, HS1.out, HR.out.2⟩⟩
      case measure => simp [intOf]; omega
     have hn1 : 1 <= D := by omega
     by_cases hn2 : D <= 16
     ·skip
      have hnx : Y7 s x = true := by rw [HD.out.2.1, decide_eq_true hn1, decide_eq_true hn2]; rfl
      have hbit : bits BinOp.or IntKind.i64 m (wrap64 (2 ^ (D.toNat - 1))) = VE s x m := by
       rw [<- bit_same ⟨hm1, hm2⟩ hnx, HD.out.2.2 hn1]
       have hsh : (2 : Int) ^ (D - 1).toNat <= 32768 /\ 0 <= (2 : Int) ^ (D - 1).toNat := by
        have h : (2 : Nat) ^ (D - 1).toNat <= 2 ^ 15 := Nat.pow_le_pow_right (by decide) (by omega)
        have h2 : ((2 : Int) ^ (D - 1).toNat) = ((2 ^ (D - 1).toNat : Nat) : Int) := by simp
        rw [h2]
        generalize (2 : Nat) ^ (D - 1).toNat = p at h ⊢
        omega
       have e : D.toNat - 1 = (D - 1).toNat := by omega
       rw [e, VB (by omega) (by omega)]
      have hbr : 0 <= VE s x m /\ VE s x m <= 65535 := X3 _ _ _ rfl
      have HR := VL (some_near (tl := tl2) HTK hnx)
      obtain ⟨m2, hm2e⟩ : ∃ m2, m2 = VE s x m := ⟨_, rfl⟩
      rw [<- hm2e] at hbit hbr HR
      obtain ⟨hbr1, hbr2⟩ := hbr
      clear hm2e
      obtain ⟨hcq, hfq, hlq⟩ := ZO.all (HS1.out.at 0 rfl)
      have y0 : W2.cell? ⟨q, k, none⟩ = some (.bool tl2[k]) := by rw [hcq, boC_get tl2 k (by omega)]
      have Zf := HS1.out.set k (.bool true)
      rw [boC_set] at Zf
      have HS3 := VL Zf
      clear Zf HS1 hcq
      go_wp2
      go_roundw
      case rel => exact ⟨k + 1, m2, rfl, by go_num, by omega, by omega, VL ⟨HR.out.1, tl2.set k true, by rw [List.length_set]; exact htl2, HS3.out, HR.out.2⟩⟩
      case measure => simp [intOf]; omega
     have hnx : Y7 s x = false := by rw [HD.out.2.1, decide_eq_false hn2, Bool.and_false]
     have HR := VL (nothing_near (tl := tl2) HTK hnx)
     go_wp2
     go_roundw
     case rel => exact ⟨k + 1, m, rfl, by go_num, by omega, by omega, VL ⟨HR.out.1, tl2, htl2, HS1.out, HR.out.2⟩⟩
     case measure => simp [intOf]; omega
    have hke : k = l.length := by omega
    subst hke
    have HX := VL (And.intro hm htk)
    have HS1 := VL hsk
    have ys := HYS.out _ _ hsk
    rw [List.take_of_length_le (by rw [List.length_drop]; omega)] at hm
    have hmr := maskL_ok s (l.drop (i + 1))
    rw [<- hm] at hmr
    have HM := VL hm
    clear hm htk hsk
    go_upto_region 15 with fail
    go_wp2_with fail
    go_at_call 39
    refine (two_frz J0 (bk q 4 (boC tl2) :: M) _ s HS1.out).mono ?_
    clear ys HS1
    rintro e w2 ⟨_, J1, rfl, hle1, hsA, A1, c1, rfl, hb1⟩
    have HB1 := VL (And.intro hsA (And.intro hle1 hb1))
    clear hsA hle1 hb1
    go_wp2_with fail
    go_at_call 39
    refine (two_frz J1 (bk q 4 (boC tl2) :: M) _ m HB1.out.1).mono ?_
    rintro e w3 ⟨_, J2, rfl, Zd, hsB, A2, c2, rfl, hb2⟩
    obtain ⟨J3, YL, hsC, Z4⟩ := (hsB.alloc 24 #[.slice A0 acc.length c0, .slice A1 (Zi (s % 65536)).length c1, .slice A2 (Zi (m % 65536)).length c2]).Zg
    have hcs := Cells.Yv Z4
    have hbd : acc.length <= 128 := by
     have h1 := congrArg List.length HPC.out
     have h2 := WZ _ l (Nat.le_refl _)
     rw [List.length_append] at h1
     omega
    have HJ := VL (WC J3 (bk q 4 (boC tl2) :: M) _ (some ⟨w3.heap.size, 0, none⟩) 3 [acc, Zi (s % 65536), Zi (m % 65536)] [.slice A0 acc.length c0, .slice A1 (Zi (s % 65536)).length c1, .slice A2 (Zi (m % 65536)).length c2] hcs ⟨⟨A0, c0, rfl, ((HB0.out.mono HB1.out.2.1).mono Zd).mono YL⟩, ⟨A1, c1, rfl, (HB1.out.2.2.mono Zd).mono YL⟩, ⟨A2, c2, rfl, hb2.mono YL⟩, trivial⟩ (by simp) (by simp only [List.flatten_cons, List.flatten_nil, List.length_append, List.length_nil, Zz]; omega) hsC)
    have HL := VL (((HLE.out.trans HB1.out.2.1).trans Zd).trans YL)
    clear HB1 Zd YL hsB hsC Z4 hcs hb2 hbd
    go_wp2_with fail
    go_at_call 35
    refine HJ.out.mono ?_
    clear HJ
    rintro e w4 ⟨_, _, _, rfl, _, Zv, rfl, A3, c3, rfl, hc3, rfl⟩
    obtain ⟨fl, hfl⟩ : ∃ z : List UInt8, z = ([acc, Zi (s % 65536), Zi (m % 65536)] : List (List UInt8)).flatten := ⟨_, rfl⟩
    rw [<- hfl] at Zv hc3 ⊢
    obtain ⟨J4, hle4, Zo, hb5⟩ := Zv.ZR
    have HFL := VL (show fl ++ YG (l.drop c') = YG l by
     rw [<- HPC.out, HPD.out, <- HM.out, hfl]
     have e1 : s % 65536 = s := by omega
     have e2 : m % 65536 = m := by omega
     rw [e1, e2]
     simp [XJ])
    have HF := VL (And.intro (HL.out.trans hle4) (And.intro Zo (show Zq J4 A3 fl from hb5)))
    clear hfl Zv hle4 Zo hb5 hc3
    go_wp2
    go_roundw
    case rel =>
     refine ⟨i + 1, A3, c3, fl, rfl, by omega, by go_num, VL ⟨J4, c', tl2, HF.out.1, HF.out.2.1, HF.out.2.2, HFL.out, ⟨by omega, hcn'⟩, htl2, fun k hk h => ?_⟩⟩
     rw [HX.out.2 k hk (by omega) (by omega), HNR.out k (by omega) (by omega), decide_eq_true (by omega)]
     rfl
    case measure => simp [intOf]; omega
  have hin : i = l.length := by omega
  have hcl : c = l.length := by omega
  subst hcl
  rw [List.drop_of_length_le (Nat.le_refl _), Wj, List.append_nil] at hpc
  subst hpc
  have HF := VL (show Frz I M (YG l) (.returned (.slice A0 (YG l).length c0)) wr from ⟨_, J0, rfl, hle0, hs0.drop, A0, c0, rfl, hb0⟩)
  clear hs0 hb0 htd
  go_wp2
  go_returns
  exact HF.out
end Go.Proofs.Ytddopbbmgpnjjaa
