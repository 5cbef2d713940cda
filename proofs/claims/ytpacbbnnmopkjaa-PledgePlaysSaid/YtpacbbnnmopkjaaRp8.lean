/- The walks of moietyref16's New and Part. -/
import Derived.Test.YtpacbbnnmopkjaaRp7
set_option linter.unusedVariables false
set_option linter.unusedSimpArgs false
namespace Go.Proofs.Ytpacbbnnmopkjaa
open Go.RowKit

set_option maxHeartbeats 4000000 in
theorem rnew_calls (x : Tr) (w : World) : Calls Try.prog 27 #[.agg #[.int .i64 x.id, .int .i64 x.frm, .int .i64 x.to, .int .i64 x.n]] w fun e w' => e = .returned (.int .i64 (trErr x)) ∧ Below w.heap.size w w' := by
  obtain ⟨id, frm, to, n⟩ := x
  have HB := Lib.hid (pbelow_one w (.cells #[.int .i64 id, .int .i64 frm, .int .i64 to, .int .i64 n] 53))
  have HE := Lib.hid (show trErr ⟨id, frm, to, n⟩ = if id < 1 ∨ 1000000 < id then 170 else if ¬ (0 ≤ frm ∧ frm < 4096) ∨ ¬ (0 ≤ to ∧ to < 4096) then 171 else if frm = to then 172 else if n < 1 ∨ 1000000000000000 < n then 173 else 0 from rfl)
  generalize trErr ⟨id, frm, to, n⟩ = E at HE ⊢
  have hid : id < 1 ∨ (¬ id < 1 ∧ 1000000 < id) ∨ (¬ id < 1 ∧ ¬ 1000000 < id) := by omega
  have hac : ¬ 0 ≤ frm ∨ (0 ≤ frm ∧ ¬ frm ≤ 4095) ∨ (0 ≤ frm ∧ frm ≤ 4095 ∧ ¬ 0 ≤ to) ∨ (0 ≤ frm ∧ frm ≤ 4095 ∧ 0 ≤ to ∧ ¬ to ≤ 4095) ∨ (0 ≤ frm ∧ frm ≤ 4095 ∧ 0 ≤ to ∧ to ≤ 4095) := by omega
  rcases hac with ha | ⟨ha, hb⟩ | ⟨ha, hb, hc⟩ | ⟨ha, hb, hc, hd⟩ | ⟨ha, hb, hc, hd⟩
  case inr.inr.inr.inr =>
    rcases hid with h1 | ⟨h1, h2⟩ | ⟨h1, h2⟩
    · have he : E = 170 := by rw [HE.out, if_pos (.inl h1)]
      subst he
      clear HE
      go_enter Try.func27, Try.ntmps27
      go_wp2
      go_ret
      exact ⟨rfl, HB.out⟩
    · have he : E = 170 := by rw [HE.out, if_pos (.inr h2)]
      subst he
      clear HE
      go_enter Try.func27, Try.ntmps27
      go_wp2
      go_ret
      exact ⟨rfl, HB.out⟩
    · by_cases hft : frm = to
      · have he : E = 172 := by rw [HE.out, if_neg (by omega), if_neg (by omega), if_pos hft]
        subst he
        have hfb : (frm == to) = true := by simpa using hft
        clear HE hft
        go_enter Try.func27, Try.ntmps27
        go_wp2
        go_ret
        exact ⟨rfl, HB.out⟩
      · have hfb : (frm == to) = false := by simpa using hft
        have hn : n < 1 ∨ (¬ n < 1 ∧ 1000000000000000 < n) ∨ (¬ n < 1 ∧ ¬ 1000000000000000 < n) := by omega
        rcases hn with g1 | ⟨g1, g2⟩ | ⟨g1, g2⟩
        · have he : E = 173 := by rw [HE.out, if_neg (by omega), if_neg (by omega), if_neg hft, if_pos (.inl g1)]
          subst he
          clear HE hft
          go_enter Try.func27, Try.ntmps27
          go_wp2
          go_ret
          exact ⟨rfl, HB.out⟩
        · have he : E = 173 := by rw [HE.out, if_neg (by omega), if_neg (by omega), if_neg hft, if_pos (.inr g2)]
          subst he
          clear HE hft
          go_enter Try.func27, Try.ntmps27
          go_wp2
          go_ret
          exact ⟨rfl, HB.out⟩
        · have he : E = 0 := by rw [HE.out, if_neg (by omega), if_neg (by omega), if_neg hft, if_neg (by omega)]
          subst he
          clear HE hft
          go_enter Try.func27, Try.ntmps27
          go_wp2
          go_ret
          exact ⟨rfl, HB.out⟩
  all_goals
    rcases hid with h1 | ⟨h1, h2⟩ | ⟨h1, h2⟩
    · have he : E = 170 := by rw [HE.out, if_pos (.inl h1)]
      subst he
      clear HE
      go_enter Try.func27, Try.ntmps27
      go_wp2
      go_ret
      exact ⟨rfl, HB.out⟩
    · have he : E = 170 := by rw [HE.out, if_pos (.inr h2)]
      subst he
      clear HE
      go_enter Try.func27, Try.ntmps27
      go_wp2
      go_ret
      exact ⟨rfl, HB.out⟩
    · have he : E = 171 := by rw [HE.out, if_neg (by omega), if_pos (by omega)]
      subst he
      clear HE
      go_enter Try.func27, Try.ntmps27
      go_wp2
      go_ret
      exact ⟨rfl, HB.out⟩

set_option maxHeartbeats 2000000 in
theorem rpart_calls (x : Tr) (pays : Bool) (w : World) (h1 : 1 ≤ x.id) (h2 : x.id ≤ 1000000) : Calls Try.prog 30 #[.agg #[.int .i64 x.id, .int .i64 x.frm, .int .i64 x.to, .int .i64 x.n], .bool pays] w fun e w' => e = .returned (.agg #[.int .i64 (partId x pays), .int .i64 (partAcc x pays), .int .i64 x.n, .bool pays]) ∧ Below w.heap.size w w' := by
  obtain ⟨id, frm, to, n⟩ := x
  simp only at h1 h2
  unfold partId partAcc
  simp only
  have key : ∀ (a b c : Int) (d : Bool), Blk (((w.alloc (.cells #[.int .i64 id, .int .i64 frm, .int .i64 to, .int .i64 n] 53)).alloc (.cells #[.int .i64 a, .int .i64 b, .int .i64 c, .bool d] 61)).alloc (.cells #[.int .i64 a, .int .i64 b, .int .i64 c, .bool d] 61)) (w.heap.size + 1) 61 #[.int .i64 a, .int .i64 b, .int .i64 c, .bool d] ∧
      Below w.heap.size w (((w.alloc (.cells #[.int .i64 id, .int .i64 frm, .int .i64 to, .int .i64 n] 53)).alloc (.cells #[.int .i64 a, .int .i64 b, .int .i64 c, .bool d] 61)).alloc (.cells #[.int .i64 a, .int .i64 b, .int .i64 c, .bool d] 61)) := by
    intro a b c d
    refine ⟨?_, (((Below.refl _ _).alloc (Nat.le_refl _) _).alloc (by simp) _).alloc (by simp; omega) _⟩
    have := (Blk.new (w.alloc (.cells #[.int .i64 id, .int .i64 frm, .int .i64 to, .int .i64 n] 53)) 61 #[.int .i64 a, .int .i64 b, .int .i64 c, .bool d]).below (pbelow_one _ (.cells #[.int .i64 a, .int .i64 b, .int .i64 c, .bool d] 61))
    simpa using this
  have hs : id + id = 2 * id := by omega
  cases pays
  · have K := Lib.hid (key (2 * id) to n false)
    clear key
    go_enter Try.func30, Try.ntmps30
    go_wp2_with fail
    try simp only [Exit.inBlock, Exit.then]
    refine bodyPost_ret (results_part rfl rfl (K.out.1.cell 0 _ rfl) (K.out.1.cell 1 _ rfl) (K.out.1.cell 2 _ rfl) (K.out.1.cell 3 _ rfl)) rfl ?_
    exact ⟨rfl, K.out.2⟩
  · have K := Lib.hid (And.intro ((key (2 * id - 1) frm n true).1.below (pbelow_drew (Below.refl _ _))) (pbelow_drew (key (2 * id - 1) frm n true).2))
    clear key
    go_enter Try.func30, Try.ntmps30
    go_wp2_with fail
    go_region
    all_goals
      go_wp2_with fail
      try simp only [Exit.inBlock, Exit.then]
      refine bodyPost_ret (results_part rfl rfl (K.out.1.cell 0 _ rfl) (K.out.1.cell 1 _ rfl) (K.out.1.cell 2 _ rfl) (K.out.1.cell 3 _ rfl)) rfl ?_
      exact ⟨rfl, K.out.2⟩
end Go.Proofs.Ytpacbbnnmopkjaa
