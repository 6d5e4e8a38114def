/- rostrumlaw24.filled. -/
import Derived.Test.YthmamheegkppdaaDoorSgK
import Derived.Deep.OwnRows
namespace Go.Proofs.YthmamheegkppdaaDoor
open Go.RowKit
set_option linter.unusedSimpArgs false

def fillB (n k : Nat) (c : UInt8) : List UInt8 := List.replicate k c ++ List.replicate (n - k) 0
theorem fill_start (n : Nat) (c : UInt8) : madeCells #[.int .u8 0] n = (bvs (fillB n 0 c)).toArray := by
  apply Array.ext'
  unfold madeCells fillB bvs bv
  simp [Nat.mod_one]
  rw [List.map_const', List.length_range]
theorem fill_step (n k : Nat) (c : UInt8) (hk : k < n) : ((bvs (fillB n k c)).toArray).setIfInBounds k (.int .u8 c.toNat) = (bvs (fillB n (k + 1) c)).toArray := by
  have e : n - k = (n - (k + 1)) + 1 := by omega
  apply Array.ext'
  unfold fillB
  rw [e, List.replicate_succ]
  simp [bvs, bv]
  rw [List.replicate_succ']
  simp
theorem fill_len (n k : Nat) (c : UInt8) (hk : k ≤ n) : (fillB n k c).length = n := by unfold fillB; simp; omega
theorem fill_end (n : Nat) (c : UInt8) : fillB n n c = List.replicate n c := by unfold fillB; simp
set_option maxRecDepth 8000 in
set_option maxHeartbeats 1000000 in
theorem filledP (I : Img) (M : List Res) (w : World) (n : Nat) (c : UInt8) (hst : St I M w) (hn : n ≤ 10000) :
    Calls Tryd.prog 16 #[.int .i64 n, .int .u8 c.toNat] w (Ret I (fun v J M' => M' = M ∧ ∃ g, v = .slice (some ⟨g, 0, none⟩) n n ∧ Byts J (some ⟨g, 0, none⟩) (List.replicate n c))) := by
  have hmk := run_make_row' (P := Tryd.prog) 42 5 (.int .u8 0) 1 Tryd.underlying42 (by kernel_rfl) rfl .i64 .i64 n (by omega) (by omega) w
  have hs := hst.alloc 5 (madeCells #[.int .u8 0] n)
  rw [fill_start n c] at hmk hs
  have HS := Lib.hid hs
  have hn' : (n : Int) ≤ 10000 := by omega
  clear hst hs hn
  go_enter Tryd.func16, Tryd.ntmps16
  go_upto_region 2 with fail
  obtain ⟨b, hb⟩ : ∃ b, b = w.heap.size := ⟨_, rfl⟩
  rw [← hb] at HS ⊢
  clear hb hmk
  generalize World.alloc _ _ = W at HS ⊢
  go_wp2_with fail
  go_loopw [11] (fun kv wr => ∃ k : Nat, k ≤ n ∧ kv = .int .i64 k ∧ Hid (St I (bk b 5 (bvs (fillB n k c)).toArray :: M) wr)) (fun kv _ => n - (intOf kv).toNat)
  case atStart => exact ⟨0, Nat.zero_le _, rfl, HS⟩
  case round =>
    obtain ⟨k, hk, rfl, HSr⟩ := hrel
    clear HS
    by_cases hlt : k < n
    · have hc : wr.cell? ⟨b, k, none⟩ = some (bv ((fillB n k c)[k]'(by rw [fill_len n k c hk]; exact hlt))) := by
        rw [(HSr.out.head : Blk wr b 5 _).cell k]
        simp [bvs, bv, fill_len n k c hk, hlt]
      have hf := (show Blk wr b 5 _ from HSr.out.head).frozen k
      have hs := HSr.out.set k (.int .u8 c.toNat)
      rw [fill_step n k c hlt] at hs
      have HS2 := Lib.hid hs
      clear hs HSr
      go_wp2
      exact ⟨⟨k + 1, hlt, by go_num, HS2⟩, by simp [intOf]; omega⟩
    · obtain rfl : k = n := by omega
      have HF := Lib.hid HSr.out.freezeBlk
      rw [fill_end] at HF
      clear HSr
      go_wp2
      go_ret
      obtain ⟨J, hl, hs, ho⟩ := HF.out
      exact Ret.mk hl hs ⟨rfl, b, rfl, Byts.ofBlk ho (by simp)⟩
end Go.Proofs.YthmamheegkppdaaDoor
