/- The walk of moietyref11.Get. -/
import Derived.Test.YtpacbbnnmopkjaaRc1
set_option linter.unusedVariables false
set_option linter.unusedSimpArgs false
namespace Go.Proofs.Ytpacbbnnmopkjaa
open Go.RowKit

set_option maxHeartbeats 1000000 in
set_option maxRecDepth 100000 in
theorem rget_err (A : Option Addr) (n c : Nat) (vs : List (Int × Int)) (m a : Int) (w : World) (hn : n = vs.length) (hA : Cells w A (vcs vs)) (hr : Rises vs) (hs : vs.length ≤ 10000) (he : getErr vs m a ≠ 0) :
    Calls Try.prog 46 #[.agg #[.slice A n c, .int .i64 m], .int .i64 a] w fun e w' => e = .returned (.tuple #[.agg #[.int .i64 0, .int .i64 0], .int .i64 (getErr vs m a)]) ∧ Below w.heap.size w w' := by
  subst hn
  have b1 : Below w.heap.size w ((w.alloc (.cells #[.slice A vs.length c, .int .i64 m] 27)).alloc (.cells #[.int .i64 0, .int .i64 0] 34)) := ((Below.refl _ _).alloc (Nat.le_refl _) _).alloc (by simp) _
  unfold getErr at he ⊢
  by_cases hat : a < 0 ∨ 1125899906842624 < a
  · rw [if_pos hat]
    clear he
    rcases (show a < 0 ∨ (¬ a < 0 ∧ 1125899906842624 < a) by omega) with h2 | ⟨h2, h3⟩
    · go_enter Try.func46, Try.ntmps46
      go_wp2
      try simp only [Exit.inBlock, Exit.then]
      refine bodyPost_ret (v := .tuple #[.agg #[.int .i64 0, .int .i64 0], .int .i64 110]) ?_ rfl ?_
      · simp [results, Try.results46, go_sem]
      exact ⟨rfl, b1⟩
    · go_enter Try.func46, Try.ntmps46
      go_wp2
      try simp only [Exit.inBlock, Exit.then]
      refine bodyPost_ret (v := .tuple #[.agg #[.int .i64 0, .int .i64 0], .int .i64 110]) ?_ rfl ?_
      · simp [results, Try.results46, go_sem]
      exact ⟨rfl, b1⟩
  · rw [if_neg hat] at he ⊢
    have h2 : ¬ a < 0 := by omega
    have h3 : ¬ 1125899906842624 < a := by omega
    by_cases hm : a < m
    · rw [if_pos hm]
      clear he hat
      go_enter Try.func46, Try.ntmps46
      go_wp2
      try simp only [Exit.inBlock, Exit.then]
      refine bodyPost_ret (v := .tuple #[.agg #[.int .i64 0, .int .i64 0], .int .i64 113]) ?_ rfl ?_
      · simp [results, Try.results46, go_sem]
      exact ⟨rfl, b1⟩
    · rw [if_neg hm] at he ⊢
      by_cases hc : cnt vs a = 0
      · rw [if_pos hc]
        have HC := Lib.hid hc
        have hA1 := hA.below b1
        clear he hat hc hA
        go_enter Try.func46, Try.ntmps46
        go_wp2_with fail
        refine (counts_calls A _ c vs a _ rfl hA1 hr hs).mono ?_
        rintro e w2 ⟨rfl, rfl⟩
        rw [HC.out]
        go_wp2
        try simp only [Exit.inBlock, Exit.then]
        refine bodyPost_ret (v := .tuple #[.agg #[.int .i64 0, .int .i64 0], .int .i64 114]) ?_ rfl ?_
        · simp [results, Try.results46, go_sem]
        exact ⟨rfl, b1⟩
      · rw [if_neg hc] at he
        exact absurd rfl he

set_option maxHeartbeats 1000000 in
set_option maxRecDepth 100000 in
theorem rget_ok (A : Option Addr) (n c : Nat) (vs : List (Int × Int)) (m a : Int) (w : World) (hn : n = vs.length) (hA : Cells w A (vcs vs)) (hr : Rises vs) (hs : vs.length ≤ 10000) (he : getErr vs m a = 0) :
    Calls Try.prog 46 #[.agg #[.slice A n c, .int .i64 m], .int .i64 a] w fun e w' => e = .returned (.tuple #[vagg (getVer vs m a), .int .i64 0]) ∧ Below w.heap.size w w' := by
  subst hn
  have b1 : Below w.heap.size w ((w.alloc (.cells #[.slice A vs.length c, .int .i64 m] 27)).alloc (.cells #[.int .i64 0, .int .i64 0] 34)) := ((Below.refl _ _).alloc (Nat.le_refl _) _).alloc (by simp) _
  obtain ⟨k, hk, hcnt, hv, _, _⟩ := ver_at he hr
  rw [hv]
  unfold getErr at he
  by_cases hat : a < 0 ∨ 1125899906842624 < a
  · rw [if_pos hat] at he; cases he
  rw [if_neg hat] at he
  have h2 : ¬ a < 0 := by omega
  have h3 : ¬ 1125899906842624 < a := by omega
  by_cases hm : a < m
  · rw [if_pos hm] at he; cases he
  have hA1 := hA.below b1
  obtain ⟨ad, rfl, c0, c1⟩ := hA1.ver k hk
  obtain ⟨x, hx⟩ : ∃ x, x = vs[k] := ⟨_, rfl⟩
  rw [← hx] at c0 c1 ⊢
  obtain ⟨x1, x2⟩ := x
  rw [show vagg (x1, x2) = .agg #[.int .i64 x1, .int .i64 x2] from rfl]
  simp only at c0 c1
  have HCNT := Lib.hid hcnt
  clear he hat hv hx hcnt hA
  go_enter Try.func46, Try.ntmps46
  go_wp2_with fail
  refine (counts_calls _ _ c vs a _ rfl hA1 hr hs).mono ?_
  rintro e w2 ⟨rfl, rfl⟩
  rw [HCNT.out]
  have b3 : Below w.heap.size w ((w.alloc (.cells #[.slice (some ad) vs.length c, .int .i64 m] 27)).alloc (.cells #[.int .i64 x1, .int .i64 x2] 34)) := ((Below.refl _ _).alloc (Nat.le_refl _) _).alloc (by simp) _
  go_wp2
  try simp only [Exit.inBlock, Exit.then]
  refine bodyPost_ret (v := .tuple #[.agg #[.int .i64 x1, .int .i64 x2], .int .i64 0]) ?_ rfl ?_
  · simp [results, Try.results46, go_sem]
  exact ⟨rfl, b3⟩
theorem rget_calls (A : Option Addr) (n c : Nat) (vs : List (Int × Int)) (m a : Int) (w : World) (hn : n = vs.length) (hA : Cells w A (vcs vs)) (hr : Rises vs) (hs : vs.length ≤ 10000) :
    Calls Try.prog 46 #[.agg #[.slice A n c, .int .i64 m], .int .i64 a] w fun e w' => e = .returned (.tuple #[vagg (getVer vs m a), .int .i64 (getErr vs m a)]) ∧ Below w.heap.size w w' := by
  by_cases he : getErr vs m a = 0
  · rw [he]; exact rget_ok A n c vs m a w hn hA hr hs he
  · have hv : vagg (getVer vs m a) = .agg #[.int .i64 0, .int .i64 0] := by unfold getVer; rw [if_neg he]; rfl
    rw [hv]; exact rget_err A n c vs m a w hn hA hr hs he
end Go.Proofs.Ytpacbbnnmopkjaa
