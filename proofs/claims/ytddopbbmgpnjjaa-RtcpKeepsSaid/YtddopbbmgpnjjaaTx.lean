/- texts by the list of their bytes. -/
import Derived.Test.YtddopbbmgpnjjaaMo
namespace Go.Proofs.Ytddopbbmgpnjjaa
open Go.RowKit
set_option linter.unusedSimpArgs false

abbrev bsA (l : List UInt8) : ByteArray := ⟨l.toArray⟩
abbrev ls (s : ByteArray) : List UInt8 := s.data.toList
theorem bsA_size (l : List UInt8) : (bsA l).size = l.length := by simp [bsA, ByteArray.size]
theorem bsA_list (l : List UInt8) : (bsA l).data.toList = l := rfl
theorem bsA_ls (s : ByteArray) : bsA (ls s) = s := rfl
theorem bsA_app (a b : List UInt8) : bsA a ++ bsA b = bsA (a ++ b) := by
  apply ByteArray.ext
  simp [bsA, ByteArray.data_append]
theorem app_ls (s t : ByteArray) : ls (s ++ t) = ls s ++ ls t := by simp [ByteArray.data_append]
theorem ls_len (s : ByteArray) : (ls s).length = s.size := Array.length_toList
theorem ls_inj {s t : ByteArray} (h : ls s = ls t) : s = t := by
  apply ByteArray.ext
  exact Array.ext' h
theorem size_app (a b : ByteArray) : (a ++ b).size = a.size + b.size := ByteArray.size_append
end Go.Proofs.Ytddopbbmgpnjjaa
