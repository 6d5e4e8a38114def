/- Push as the laws' loops read it; the scripts' operations. -/
import Derived.Test.YtaemohkmingnpaaFwE
import Derived.Test.YtaemohkmingnpaaFwG
namespace Go.Proofs.Ytaemohkmingnpaa
open Go.RowKit
set_option linter.unusedSimpArgs false

structure OpD.ok (x : OpD) : Prop where
  layer : -9223372036854775808 ≤ x.layer ∧ x.layer ≤ 9223372036854775807
  seq : 0 ≤ x.seq ∧ x.seq ≤ 65535
  time : 0 ≤ x.time ∧ x.time ≤ 4294967295
  now : -9223372036854775808 ≤ x.now ∧ x.now ≤ 9223372036854775807
/-- a script -/
def Ops (I : Img) (A : Option Addr) (xs : List OpD) : Prop :=
  0 < xs.length → ∃ g o, A = some ⟨g, o, none⟩ ∧ ∀ i (h : i < xs.length), (∀ j, j < 7 → I.cell? ⟨g, o + i * 7 + j, none⟩ = (opC xs[i])[j]?) ∧ Byts I xs[i].A xs[i].bs ∧ xs[i].bs.length ≤ 140737488351232 ∧ xs[i].ok
structure Kept (f f1 : Fl) : Prop where
  codec : f1.codec = f.codec
  clock : f1.clock = f.clock
  typ : f1.typ = f.typ
  seq : f1.seq = f.seq
  time : f1.time = f.time
  source : f1.source = f.source
  wanted : f1.wanted = f.wanted
  begun : f1.begun = f.begun
  last : f1.last = f.last
  moment : f1.moment = f.moment
  picture : f1.picture = f.picture
theorem pushS_ok {f f1 : Fl} {layer : Int} {P : Pk} {bs : List UInt8} {now : Int} {s a : Bool} (h : pushS f layer P bs now = (f1, s, a)) (hok : f.ok) (hl : -9223372036854775808 ≤ layer ∧ layer ≤ 9223372036854775807) : Kept f f1 ∧ f1.ok ∧ (s = true → a = false) := by
  obtain ⟨a1, a2, a3, a4, a5, a6, a7, a8, a9⟩ := hok
  unfold pushS at h
  split at h
  · injection h with h1 h2; injection h2 with h2 h3; subst h1 h2 h3
    exact ⟨⟨rfl, rfl, rfl, rfl, rfl, rfl, rfl, rfl, rfl, rfl, rfl⟩, ⟨a1, a2, a3, a4, a5, a6, a7, a8, a9⟩, fun _ => rfl⟩
  · rename_i hn
    split at h
    · split at h
      · injection h with h1 h2; injection h2 with h2 h3; subst h1 h2 h3
        exact ⟨⟨rfl, rfl, rfl, rfl, rfl, rfl, rfl, rfl, rfl, rfl, rfl⟩, ⟨a1, a2, a3, a4, by show -1 ≤ layer ∧ layer ≤ _; omega, a6, a7, by show 0 ≤ (timeS f now - P.time) % 4294967296 ∧ (timeS f now - P.time) % 4294967296 ≤ _; omega, a9⟩, fun _ => rfl⟩
      · injection h with h1 h2; injection h2 with h2 h3; subst h1 h2 h3
        exact ⟨⟨rfl, rfl, rfl, rfl, rfl, rfl, rfl, rfl, rfl, rfl, rfl⟩, ⟨a1, a2, a3, a4, a5, a6, a7, a8, a9⟩, fun h => by cases h⟩
    · split at h
      · injection h with h1 h2; injection h2 with h2 h3; subst h1 h2 h3
        exact ⟨⟨rfl, rfl, rfl, rfl, rfl, rfl, rfl, rfl, rfl, rfl, rfl⟩, ⟨a1, a2, a3, a4, a5, a6, a7, a8, a9⟩, fun _ => rfl⟩
      · split at h
        · injection h with h1 h2; injection h2 with h2 h3; subst h1 h2 h3
          exact ⟨⟨rfl, rfl, rfl, rfl, rfl, rfl, rfl, rfl, rfl, rfl, rfl⟩, ⟨a1, a2, a3, a4, a5, a6, a7, a8, a9⟩, fun h => by cases h⟩
        · injection h with h1 h2; injection h2 with h2 h3; subst h1 h2 h3
          exact ⟨⟨rfl, rfl, rfl, rfl, rfl, rfl, rfl, rfl, rfl, rfl, rfl⟩, ⟨a1, a2, a3, a4, a5, a6, a7, a8, a9⟩, fun _ => rfl⟩
theorem chooseF_ok {f : Fl} (h : f.ok) {n : Int} (hn : n ≤ 9223372036854775807) : (chooseF f n).ok := by
  obtain ⟨a1, a2, a3, a4, a5, a6, a7, a8, a9⟩ := h
  unfold chooseF
  split
  · exact ⟨a1, a2, a3, by show 0 ≤ n ∧ n ≤ _; omega, a5, a6, a7, a8, a9⟩
  · exact ⟨a1, a2, a3, a4, a5, a6, a7, a8, a9⟩
theorem payS_len (f : Fl) (b : Bool) (bs : List UInt8) : (payS f b bs).length = bs.length := by
  unfold payS
  split
  · exact setS_len _ _
  · rfl
/-- what is sent, or nothing -/
abbrev xC (P : Pk) (pv : Value) : Array Value := #[.bool P.marker, .int .i64 P.typ, .int .u16 P.seq, .int .u32 P.time, .int .u32 P.source, .slice none 0 0, .slice none 0 0, pv, .int .i64 P.pad]
theorem pushU (I : Img) (M : List Res) (w : World) (p : Nat) (f : Fl) (P : Pk) (A : Option Addr) (c : Nat) (bs : List UInt8) (layer now : Int) (f1 : Fl) (sent ask : Bool) (hpu : pushS f layer P bs now = (f1, sent, ask)) (hst : St I (bk p 64 (flC f) :: M) w) (hb : Byts I A bs) (hl : bs.length ≤ 140737488351232) (hok : f.ok) (hP : P.ok) (hn : -9223372036854775808 ≤ now ∧ now ≤ 9223372036854775807) :
    Calls Try.prog 11 #[.pointer (some ⟨p, 0, none⟩), .int .i64 layer, .agg (pkC P (.slice A bs.length c)), .int .i64 now] w (fun e w' => ∃ J f2 P2 A2 c2 n, e = .returned (.tuple #[.agg (xC P2 (.slice A2 n c2)), .bool sent, .bool ask]) ∧ I.le J ∧ St J (bk p 64 (flC f2) :: M) w' ∧
      (sent = true → f2 = sendS f1 P (beginsS f.codec bs).1 now ∧ P2 = outP f1 P ∧ n = bs.length) ∧ (sent = false → f2 = f1)) := by
  refine (pushC I M w p f P A c bs layer now hst hb hl hok hP hn).mono ?_
  rintro e w2 ⟨v, J, M2, rfl, hle, hs, hq⟩
  rcases hq with ⟨f3, h1, A2, c2, rfl, _, rfl⟩ | ⟨f3, a3, h1, rfl, rfl⟩
  · rw [hpu] at h1
    injection h1 with h1 h2; injection h2 with h2 h3; subst h1 h2 h3
    exact ⟨J, _, outP f1 P, A2, c2, _, rfl, hle, hs.drop, (fun _ => ⟨rfl, rfl, payS_len _ _ _⟩), fun h => by cases h⟩
  · rw [hpu] at h1
    injection h1 with h1 h2; injection h2 with h2 h3; subst h1 h2 h3
    exact ⟨J, _, zeroP, none, 0, 0, rfl, hle, hs, (fun h => by cases h), fun _ => rfl⟩
theorem pushS_ev (f : Fl) (layer : Int) (bs : List UInt8) (now : Int) (P : Pk) (ev : Value) (pad : Int) : pushS f layer { P with ev, pad } bs now = pushS f layer P bs now := rfl
/-- behind a packet of a script was made and pushed: what the answer is, and the flow -/
def PushCut (I : Img) (M : List Res) (p ob : Nat) (f f1 : Fl) (x : OpD) (sent : Bool) (xq : Nat) (wx : World) : Prop :=
  ∃ J f2 P2 A2 c2 n, I.le J ∧ St J (bk p 64 (flC f2) :: bk ob 44 (opC x) :: bk xq 38 (xC P2 (.slice A2 n c2)) :: M) wx ∧
    (sent = true → f2 = sendS f1 (pk5 x (.slice none 0 0) 0) (beginsS f.codec x.bs).1 x.now ∧ P2 = outP f1 (pk5 x (.slice none 0 0) 0) ∧ n = x.bs.length) ∧ (sent = false → f2 = f1)
theorem opKeep {J : Img} {M : List Res} {w : World} {q : Nat} {a : Res} {x : OpD} (h : St J (a :: bk q 44 (opC x) :: M) w) :
    w.cell? ⟨q, 0, none⟩ = some (.bool x.pick) ∧ w.cell? ⟨q, 1, none⟩ = some (.int .i64 x.layer) ∧ w.cell? ⟨q, 2, none⟩ = some (.int .u16 x.seq) ∧ w.cell? ⟨q, 3, none⟩ = some (.int .u32 x.time) ∧ w.cell? ⟨q, 4, none⟩ = some (.bool x.marker) ∧ w.cell? ⟨q, 5, none⟩ = some (.slice x.A x.bs.length x.c) ∧ w.cell? ⟨q, 6, none⟩ = some (.int .i64 x.now) := by
  have hb : Blk w q 44 (opC x) := h.at 1 rfl
  exact ⟨hb.cell 0, hb.cell 1, hb.cell 2, hb.cell 3, hb.cell 4, hb.cell 5, hb.cell 6⟩
theorem St.allocTo {I : Img} {M : List Res} {w w2 : World} {a b : Res} {t : TypeId} {cs : Array Value} {q : Nat} (h : St I (a :: b :: M) w) (e : w.alloc (.cells cs t) = w2) (hq : q = w.heap.size) : St I (a :: b :: bk q t cs :: M) w2 := by
  subst hq e
  exact (h.alloc t cs).swap2.swap1
end Go.Proofs.Ytaemohkmingnpaa
