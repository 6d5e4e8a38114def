/- the bytes of a packet. -/
import Derived.Test.YtddopbbmgpnjjaaRcM
namespace Go.Proofs.Ytddopbbmgpnjjaa
open Go.RowKit
set_option linter.unusedSimpArgs false

/-- marks and distances, one more arrival -/
structure Ms where
  mks : List UInt8
  far : List UInt8
  n : Nat
  ch : Int
def chM (s : Ms) (m : Int) : Int := bits BinOp.or IntKind.u16 s.ch (IntKind.u16.wrap (m * 2 ^ (12 - 2 * (s.n % 7))))
def fullM (N : Nat) (s : Ms) : Bool := decide ((s.n + 1) % 7 = 0) || decide (s.n + 1 = N)
def stepM (N : Nat) (s : Ms) (x : Int × Int) : Ms where
  mks := if fullM N s then s.mks ++ u16B (bits BinOp.or IntKind.u16 49152 (chM s x.1)) else s.mks
  far := if x.1 = 1 then s.far ++ [byteOf (x.2 % 256)] else if x.1 = 2 then s.far ++ u16B (x.2 % 65536) else s.far
  n := s.n + 1
  ch := if fullM N s then 0 else chM s x.1
def ms0 : Ms := ⟨[], [], 0, 0⟩
def arrsM (l : List Int) : Ms := (l.map markP).foldl (stepM l.length) ms0
def arrsL (l : List Int) : List UInt8 := (arrsM l).mks ++ (arrsM l).far
def wnL (x : Wn) : List UInt8 := u32B x.src ++ u32B (x.seq * 16777216)
/-- what stands behind sender and media, of a kind -/
def kindL (p : Pk) : List UInt8 :=
  if p.kind = 1 then u32Bs [p.ntp / 4294967296, p.ntp % 4294967296, p.rtp, p.pkts, p.octs]
  else if p.kind = 3 then [byteOf 1, byteOf p.name.size] ++ p.name.data.toList ++ [byteOf 0]
  else if p.kind = 5 then piecesB p.seqs
  else if p.kind = 6 then u16B p.base ++ u16B p.arrs.length ++ u32B (p.ref * 256 + p.count) ++ arrsL p.arrs
  else []
def bodyL (p : Pk) : List UInt8 :=
  (if p.kind = 4 then [] else u32B p.sender) ++ (if 5 ≤ p.kind then u32B p.media else []) ++ kindL p ++ p.reps.flatMap repL ++ u32Bs p.srcs ++ p.wants.flatMap wnL
def lowP (p : Pk) : Int := if (whereP p.kind).2 < 0 then p.reps.length + p.srcs.length else (whereP p.kind).2
/-- a packet's bytes -/
def packB (p : Pk) : List UInt8 := [byteOf (128 + lowP p), byteOf (whereP p.kind).1] ++ u16B ((evenL (bodyL p)).length / 4 : Nat) ++ evenL (bodyL p)
/-- numbers in their ranges -/
structure PkOk (p : Pk) : Prop where
  sender : 0 ≤ p.sender ∧ p.sender ≤ 4294967295
  media : 0 ≤ p.media ∧ p.media ≤ 4294967295
  ntp : 0 ≤ p.ntp ∧ p.ntp ≤ 18446744073709551615
  rtp : 0 ≤ p.rtp ∧ p.rtp ≤ 4294967295
  pkts : 0 ≤ p.pkts ∧ p.pkts ≤ 4294967295
  octs : 0 ≤ p.octs ∧ p.octs ≤ 4294967295
  reps : ∀ x ∈ p.reps, RpOk x
  srcs : ∀ x ∈ p.srcs, 0 ≤ x ∧ x ≤ 4294967295
  seqs : ∀ x ∈ p.seqs, 0 ≤ x ∧ x ≤ 65535
  base : 0 ≤ p.base ∧ p.base ≤ 65535
  ref : 0 ≤ p.ref ∧ p.ref ≤ 16777215
  count : 0 ≤ p.count ∧ p.count ≤ 255
  wants : ∀ x ∈ p.wants, (0 ≤ x.src ∧ x.src ≤ 4294967295) ∧ (0 ≤ x.seq ∧ x.seq ≤ 255)
theorem flatU32 (l : List Int) : u32Bs l = l.flatMap u32B := rfl
/-- two first ones behind three others -/
theorem St.rot23 {I : Img} {M : List Res} {w : World} {a b c d e : Res} (h : St I (a :: b :: c :: d :: e :: M) w) : St I (d :: e :: a :: b :: c :: M) w :=
  h.perm (List.Perm.append_right M (List.perm_append_comm (l₁ := [a, b, c]) (l₂ := [d, e])))
theorem St.rot32 {I : Img} {M : List Res} {w : World} {a b c d e : Res} (h : St I (a :: b :: c :: d :: e :: M) w) : St I (c :: d :: e :: a :: b :: M) w :=
  h.perm (List.Perm.append_right M (List.perm_append_comm (l₁ := [a, b]) (l₂ := [c, d, e])))
end Go.Proofs.Ytddopbbmgpnjjaa
