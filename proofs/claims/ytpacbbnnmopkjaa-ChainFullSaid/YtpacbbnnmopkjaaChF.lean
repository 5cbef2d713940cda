/- A full chain. Plain Lean. -/
import Derived.Test.YtpacbbnnmopkjaaChG
import Derived.Laws.BitsAllLaws
set_option linter.unusedVariables false
set_option linter.unusedSimpArgs false
namespace Go.Proofs.Ytpacbbnnmopkjaa

def fulls (n : Nat) : List (Int × Int) := (List.range n).map (fun (i : Nat) => ((2 * ((i : Int) + 1), -((i : Int) + 1)) : Int × Int))
theorem fulls_length (n : Nat) : (fulls n).length = n := by simp [fulls]
theorem fulls_get (n i : Nat) (h : i < (fulls n).length) : (fulls n)[i] = (2 * ((i : Int) + 1), -((i : Int) + 1)) := by simp [fulls]
theorem fulls_succ (n : Nat) : fulls (n + 1) = fulls n ++ [(2 * ((n : Int) + 1), -((n : Int) + 1))] := by simp [fulls, List.range_succ]
theorem fulls_rises (n : Nat) : Rises (fulls n) := by
  unfold Rises
  rw [List.pairwise_iff_getElem]
  intro i j hi hj hij
  rw [fulls_get, fulls_get]
  simp; omega
theorem fulls_last (n : Nat) (h : 0 < n) : lastT (fulls n) = 2 * (n : Int) := by
  unfold lastT
  rw [List.getLast?_eq_getElem?, fulls_length, List.getElem?_eq_getElem (by rw [fulls_length]; omega), fulls_get]
  simp; omega
theorem fulls_put (n : Nat) (h : n < 10000) : putErr (fulls n) 0 (2 * ((n : Int) + 1)) = 0 := by
  unfold putErr
  rw [if_neg (by omega), if_neg, if_neg (by rw [fulls_length]; omega)]
  rw [fulls_length]
  intro e
  rcases e with ⟨h1, h2⟩ | h2
  · rw [fulls_last n h1] at h2; omega
  · omega
theorem fulls_putv (n : Nat) (h : n < 10000) : putVer (fulls n) 0 (2 * ((n : Int) + 1)) (-((n : Int) + 1)) = fulls (n + 1) := by
  unfold putVer
  rw [if_pos (fulls_put n h), fulls_succ]
theorem fulls_err : putErr (fulls 10000) 0 20001 = 112 := by
  unfold putErr
  rw [fulls_length, fulls_last 10000 (by omega), if_neg (by omega), if_neg (by omega), if_pos (by omega)]
theorem fulls_cnt (n : Nat) (a : Nat) : cnt (fulls n) (a : Int) = min (a / 2) n := by
  apply cnt_split
  · rw [fulls_length]; omega
  · intro k hk h
    rw [fulls_get]
    simp only; omega
  · intro k hk h
    rw [fulls_length] at hk
    rw [fulls_get]
    simp only; omega
/-- What the full chain tells behind a pruning. -/
theorem fulls_get_at (k a : Nat) (hk : k ≤ 16383) (ha : k ≤ a) (ha2 : a ≤ 20000) :
    getErr (pruneVer (fulls 10000) 0 k) (pruneMark 0 k) a = (if min (a / 2) 10000 = 0 then 114 else 0) ∧
    getVer (pruneVer (fulls 10000) 0 k) (pruneMark 0 k) a = (if min (a / 2) 10000 = 0 then (0, 0) else (2 * ((min (a / 2) 10000 : Nat) : Int), -((min (a / 2) 10000 : Nat) : Int))) := by
  obtain ⟨h1, h2⟩ := prune_stays (fulls 10000) 0 k a (fulls_rises _) (by omega)
  rw [h1, h2]
  have he : getErr (fulls 10000) 0 a = (if min (a / 2) 10000 = 0 then 114 else 0) := by
    unfold getErr
    rw [if_neg (by omega), if_neg (by omega), fulls_cnt]
  refine ⟨he, ?_⟩
  unfold getVer
  rw [he, fulls_cnt]
  generalize hq : min (a / 2) 10000 = q
  by_cases h0 : q = 0
  · rw [if_pos h0, if_pos h0]; rfl
  · rw [if_neg h0, if_neg h0, if_pos rfl, List.getD_eq_getElem?_getD, List.getElem?_eq_getElem (by rw [fulls_length]; omega), fulls_get]
    simp; omega
theorem fulls_left (k : Nat) (hk : k ≤ 16383) : (pruneVer (fulls 10000) 0 k).length = 10000 - (k / 2 - 1) := by
  unfold pruneVer
  rw [if_pos (show pruneErr (k : Int) = 0 by unfold pruneErr; rw [if_neg (by omega)]), List.length_drop, fulls_length]
  have : max (0 : Int) (k : Int) = (k : Int) := by omega
  rw [this, fulls_cnt]; omega
theorem and_mask (x : Int) : ∃ k : Nat, bits .and .i64 x 16383 = (k : Int) ∧ k ≤ 16383 := by
  refine ⟨(BitVec.ofInt 64 x &&& BitVec.ofInt 64 16383).toNat, ?_, ?_⟩
  · show IntKind.i64.wrap ((BitVec.ofInt 64 x &&& BitVec.ofInt 64 16383).toNat : Int) = _
    have h : (BitVec.ofInt 64 x &&& BitVec.ofInt 64 16383).toNat ≤ 16383 := by rw [BitVec.toNat_and]; exact Nat.and_le_right
    rw [Go.IntKind.wrap_i64]; omega
  · rw [BitVec.toNat_and]; exact Nat.and_le_right
end Go.Proofs.Ytpacbbnnmopkjaa
