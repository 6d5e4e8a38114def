/- a made token, split. -/
import Derived.Test.YtakgdmcekhafoaaDoorToJ
import Derived.Test.YtakgdmcekhafoaaDoorSp
import Derived.Test.YtakgdmcekhafoaaDoorNuS
import Derived.Test.YtakgdmcekhafoaaDoorShelfB
namespace Go.Proofs.YtakgdmcekhafoaaDoor
open Go.RowKit
set_option linter.unusedSimpArgs false

def hexSet : List UInt8 := [48, 49, 50, 51, 52, 53, 54, 55, 56, 57, 97, 98, 99, 100, 101, 102]
theorem digH_in : ∀ n, n < 16 → hexSet.contains (digH n) = true := by decide
theorem hex_in : ∀ (l : List UInt8), ∀ b ∈ hexOf l, hexSet.contains b = true
  | [], b, h => by cases h
  | x :: r, b, h => by
    have hx := x.toNat_lt
    simp only [hexOf, List.mem_cons] at h
    rcases h with rfl | rfl | h
    · exact digH_in _ (by omega)
    · exact digH_in _ (by omega)
    · exact hex_in r b h
theorem drop_all (p : UInt8 → Bool) : ∀ l : List UInt8, (∀ b ∈ l, p b = true) → l.dropWhile p = []
  | [], _ => rfl
  | x :: r, h => by
    rw [List.dropWhile_cons_of_pos (h x (by simp))]
    exact drop_all p r (fun b hb => h b (by simp [hb]))
theorem hex_trim (l : List UInt8) : Lib.trimS (hexOf l) hexSet = [] := by
  have h1 : (hexOf l).reverse.dropWhile (hexSet.contains ·) = [] := drop_all _ _ (fun b hb => hex_in l b (List.mem_reverse.1 hb))
  unfold Lib.trimS Lib.trimRightS
  rw [h1]
  rfl
theorem hex46 (l : List UInt8) : ∀ b ∈ hexOf l, b ≠ 46 := fun b hb e => by
  have := hex_in l b hb
  rw [e] at this
  exact absurd this (by decide)
def hexT (kb : List UInt8) (c : Cl) : List UInt8 := hexOf (macS kb (textC c))
theorem hexT_len (kb : List UInt8) (c : Cl) : (hexT kb c).length = 40 := by
  unfold hexT
  rw [hexOf_len, macS_len]
def tokT (kb : List UInt8) (c : Cl) : List UInt8 := textC c ++ 46 :: hexT kb c
theorem split_tok {kb : List UInt8} {c : Cl} (h : goodC c = true) : splitC 46 (tokT kb c) = [ls c.room, ls c.user, Lib.decDigits c.til.toNat, Lib.decDigits c.rights.toNat, hexT kb c] := by
  obtain ⟨g1, g2, g3, g4, g5, g6⟩ := (goodC_iff c).1 h
  have e : tokT kb c = ls c.room ++ 46 :: (ls c.user ++ 46 :: (Lib.decDigits c.til.toNat ++ 46 :: (Lib.decDigits c.rights.toNat ++ 46 :: hexT kb c))) := by
    unfold tokT
    rw [textC_dec h]
    simp
  rw [e, splitC_no_app 46 _ _ (word46 g1), splitC_no_app 46 _ _ (word46 g2), splitC_no_app 46 _ _ (dec46 _), splitC_no_app 46 _ _ (dec46 _), splitC_plain 46 (hexT kb c) (hex46 _)]
theorem atoi_rights (n : Nat) (h : n ≤ 7) : Lib.atoiAll (Lib.decDigits n) = .ok (n : Int) := by
  rw [dec_small (by omega)]
  have : n = 0 ∨ n = 1 ∨ n = 2 ∨ n = 3 ∨ n = 4 ∨ n = 5 ∨ n = 6 ∨ n = 7 := by omega
  rcases this with rfl | rfl | rfl | rfl | rfl | rfl | rfl | rfl <;> rfl
def strC (l : List (List UInt8)) : Array Value := ((l.map bsA).map Value.string).toArray
set_option maxRecDepth 100000 in
theorem splitP (I : Img) (M : List Res) (s : ByteArray) (mx : Int) (w : World) (hst : St I M w) (hs : s.size ≤ 100000) (hm : I.cell? ⟨3, 0, none⟩ = some (.int .i64 mx)) (l : List (List UInt8)) (hl : splitC 46 (ls s) = l) :
    Calls Tryd.prog 23 #[.string s, .string ⟨#[46]⟩] w (Ret I (fun v J M' => M' = M ∧ ∃ g, v = .slice (some ⟨g, 0, none⟩) l.length l.length ∧ ∀ (j : Nat) x, l[j]? = some x → J.cell? ⟨g, j, none⟩ = some (.string (bsA x)))) := by
  have hc := Tryd.strings_Split s ⟨#[46]⟩ mx w (by omega) (hst.cell hm) (by decide)
  have h1 := Lib.splitB_all ⟨#[46]⟩ (by decide) 0 _ s rfl
  rw [split_bytes, hl] at h1 hc
  rw [List.length_map] at h1
  rw [← h1] at hc
  refine hc.mono ?_
  rintro e w' ⟨rfl, rfl⟩
  obtain ⟨J, h2, h3, h4⟩ := hst.allocF 9 ((l.map bsA).map Value.string).toArray
  refine Ret.mk h2 h3 ⟨rfl, w.heap.size, rfl, fun j x hj => ?_⟩
  simp only [Img.cell?, h4]
  simp [hj]
set_option maxRecDepth 100000 in
theorem info69 : (Tryd.prog.info? 68).map (fun i => (i.zero, i.size)) = some (some (.agg (Array.replicate 256 (.bool false))), 256) := by kernel_rfl
set_option maxRecDepth 100000 in
theorem trimP (kb : List UInt8) (c : Cl) (w : World) : Calls Tryd.prog 24 #[.string (bsA (hexT kb c)), .string ⟨#[48, 49, 50, 51, 52, 53, 54, 55, 56, 57, 97, 98, 99, 100, 101, 102]⟩] w fun e w' => e = .returned (.string ⟨#[]⟩) ∧ Below w.heap.size w w' := by
  refine (Any.strings_Trim_laid Tryd.lays160 info69 (bsA (hexT kb c)) ⟨#[48, 49, 50, 51, 52, 53, 54, 55, 56, 57, 97, 98, 99, 100, 101, 102]⟩ w (by rw [bsA_size, hexT_len]; decide) (by decide) (ascii_of_all (by decide))).mono ?_
  rintro e w' ⟨rfl, hb⟩
  refine ⟨?_, hb⟩
  have : Lib.trimS (bsA (hexT kb c)).data.toList hexSet = [] := hex_trim _
  exact congrArg (fun l : List UInt8 => Ending.returned (.string ⟨l.toArray⟩)) this
end Go.Proofs.YtakgdmcekhafoaaDoor
