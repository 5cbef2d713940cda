/- The walk of moietyref11.Prune. -/
import Derived.Test.YtpacbbnnmopkjaaRc3
import Derived.Deep.Cut
set_option linter.unusedVariables false
set_option linter.unusedSimpArgs false
namespace Go.Proofs.Ytpacbbnnmopkjaa
open Go.RowKit

theorem keep_iff {vs : List (Int × Int)} (hr : Rises vs) (M : Int) {k : Nat} (hk : k < vs.length) : (k + 1 = vs.length ∨ ∃ h : k + 1 < vs.length, M < (vs[k + 1]).1) ↔ cnt vs M - 1 ≤ k := by
  have hl := cnt_le vs M
  constructor
  · rintro (h | ⟨h, h2⟩)
    · omega
    · have := rises_cnt hr M (k + 1) h
      have h3 : ¬ k + 1 < cnt vs M := fun e => by have := this.1 e; omega
      omega
  · intro h
    by_cases he : k + 1 = vs.length
    · exact .inl he
    · refine .inr ⟨by omega, ?_⟩
      have := rises_cnt hr M (k + 1) (by omega)
      have h3 : ¬ k + 1 < cnt vs M := by omega
      have h4 := fun e => h3 (this.2 e)
      omega
theorem kept_yes (vs : List (Int × Int)) (d k : Nat) (hk : k < vs.length) (h : d ≤ k) : (vs.take (k + 1)).drop d = (vs.take k).drop d ++ [vs[k]] := by
  rw [List.take_succ_eq_append_getElem hk, List.drop_append_of_le_length (by rw [List.length_take]; omega)]
theorem kept_no (vs : List (Int × Int)) (d k : Nat) (h : k < d) : (vs.take (k + 1)).drop d = (vs.take k).drop d := by
  rw [List.drop_eq_nil_of_le (by rw [List.length_take]; omega), List.drop_eq_nil_of_le (by rw [List.length_take]; omega)]

set_option maxHeartbeats 1000000 in
set_option maxRecDepth 100000 in
theorem rprune_err (A : Option Addr) (n c : Nat) (m t : Int) (w : World) (he : pruneErr t ≠ 0) :
    Calls Try.prog 47 #[.agg #[.slice A n c, .int .i64 m], .int .i64 t] w fun e w' => e = .returned (.tuple #[.agg #[.slice A n c, .int .i64 m], .int .i64 (pruneErr t)]) ∧ Below w.heap.size w w' := by
  obtain ⟨W, hW⟩ : ∃ W, W = (w.alloc (.cells #[.slice A n c, .int .i64 m] 27)).alloc (.cells #[.slice A n c, .int .i64 m] 27) := ⟨_, rfl⟩
  have b1 : Below w.heap.size w W := by rw [hW]; exact ((Below.refl _ _).alloc (Nat.le_refl _) _).alloc (by simp) _
  have R0 : W.cell? ⟨w.heap.size + 1, 0, none⟩ = some (.slice A n c) := by rw [hW]; simp
  have R1 : W.cell? ⟨w.heap.size + 1, 1, none⟩ = some (.int .i64 m) := by rw [hW]; simp
  unfold pruneErr at he ⊢
  by_cases hat : t < 0 ∨ 1125899906842624 < t
  · rw [if_pos hat]
    have HW := Lib.hid hW
    clear hW he
    rcases (show t < 0 ∨ (¬ t < 0 ∧ 1125899906842624 < t) by omega) with h2 | ⟨h2, h3⟩
    · go_enter Try.func47, Try.ntmps47
      go_wp2
      rw [← HW.out]
      try simp only [Exit.inBlock, Exit.then]
      refine bodyPost_ret (results_two rfl rfl R0 R1) rfl ?_
      exact ⟨rfl, b1⟩
    · go_enter Try.func47, Try.ntmps47
      go_wp2
      rw [← HW.out]
      try simp only [Exit.inBlock, Exit.then]
      refine bodyPost_ret (results_two rfl rfl R0 R1) rfl ?_
      exact ⟨rfl, b1⟩
  · rw [if_neg hat] at he; exact absurd rfl he
end Go.Proofs.Ytpacbbnnmopkjaa
