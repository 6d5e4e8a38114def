/- rtcp.read, of whatever kind; a packet's first two bytes tell its kind. -/
import Derived.Test.YtddopbbmgpnjjaaRrK4
import Derived.Test.YtddopbbmgpnjjaaRrK2
import Derived.Test.YtddopbbmgpnjjaaRrK5
import Derived.Test.YtddopbbmgpnjjaaRrK6
import Derived.Test.YtddopbbmgpnjjaaRrK8
namespace Go.Proofs.Ytddopbbmgpnjjaa
open Go.RowKit
set_option linter.unusedSimpArgs false

theorem readC (J0 : Img) (M : List Res) (w : World) (f s : Int) (p9 : Nat) (r : RS) (b : Res) (T : Pk → Prop) (hT : ∀ p, T p → Good p ∧ PkOk p ∧ p.kind = kindP f s ∧ r = (evenL (bodyL p), false)) (hf : 0 ≤ f ∧ f ≤ 255) (hl : r.1.length ≤ 2000) (hst : St J0 (b :: M) w) (hR : Rdr J0 p9 r b) :
    Calls Try.prog 30 #[.int .u8 f, .int .u8 s, .pointer (some ⟨p9, 0, none⟩)] w (RdOk J0 M T) := by
  rcases kindP_ways f s with h | h | h | h | h | h | h | h | h
  · exact read0 J0 M w f s p9 r b T (fun p hp => by rw [← h]; exact hT p hp) h hf hl hst hR
  · exact read1 J0 M w f s p9 r b T (fun p hp => by rw [← h]; exact hT p hp) h hf hl hst hR
  · exact read2 J0 M w f s p9 r b T (fun p hp => by rw [← h]; exact hT p hp) h hf hl hst hR
  · exact read3 J0 M w f s p9 r b T (fun p hp => by rw [← h]; exact hT p hp) h hf hl hst hR
  · exact read4 J0 M w f s p9 r b T (fun p hp => by rw [← h]; exact hT p hp) h hf hl hst hR
  · exact read5 J0 M w f s p9 r b T (fun p hp => by rw [← h]; exact hT p hp) h hf hl hst hR
  · exact read6 J0 M w f s p9 r b T (fun p hp => by rw [← h]; exact hT p hp) h hf hl hst hR
  · exact read7 J0 M w f s p9 r b T (fun p hp => by rw [← h]; exact hT p hp) h hf hl hst hR
  · exact read8 J0 M w f s p9 r b T (fun p hp => by rw [← h]; exact hT p hp) h hf hl hst hR
theorem kind_back {p : Pk} (hg : Good p) : kindP (128 + lowP p) (whereP p.kind).1 = p.kind := by
  have hl := lowP_ok hg
  have hk := hg.1
  unfold KindOk at hk
  have hm : (128 + lowP p) % 32 = lowP p := by omega
  unfold kindP matchB
  rw [hm]
  unfold lowP
  rcases (show p.kind = 1 ∨ p.kind = 2 ∨ p.kind = 3 ∨ p.kind = 4 ∨ p.kind = 5 ∨ p.kind = 6 ∨ p.kind = 7 ∨ p.kind = 8 by omega) with h | h | h | h | h | h | h | h
  all_goals (rw [h]; simp [whereP])
end Go.Proofs.Ytddopbbmgpnjjaa
