/- What holds of a chain's state behind any calls. Plain Lean. -/
import Derived.Test.YtpacbbnnmopkjaaChP
set_option linter.unusedVariables false
set_option linter.unusedSimpArgs false
namespace Go.Proofs.Ytpacbbnnmopkjaa

structure Sound (vs : List (Int × Int)) (m : Int) : Prop where
  rises : Rises vs
  rng : ∀ k (hk : k < vs.length), 1 ≤ (vs[k]).1 ∧ (vs[k]).1 ≤ 1125899906842624
  tail : ∀ k (hk : k < vs.length), 0 < k → m < (vs[k]).1
  lo : 0 ≤ m ∧ m ≤ 1125899906842624
theorem good_nil : Sound [] 0 := ⟨by simp [Rises], fun k hk => by simp at hk, fun k hk => by simp at hk, by decide⟩
theorem putErr_zero {vs : List (Int × Int)} {m t : Int} (h : putErr vs m t = 0) : 1 ≤ t ∧ t ≤ 1125899906842624 ∧ m < t ∧ ¬ (0 < vs.length ∧ t ≤ lastT vs) ∧ vs.length < 10000 := by
  unfold putErr at h
  split at h
  · cases h
  split at h
  · cases h
  split at h
  · cases h
  omega
theorem good_put {vs : List (Int × Int)} {m t v : Int} (h : Sound vs m) : Sound (putVer vs m t v) m := by
  have hr := put_rises (m := m) (t := t) (v := v) h.rises
  unfold putVer at hr ⊢
  split
  · rename_i he
    rw [if_pos he] at hr
    obtain ⟨h1, h2, h3, h4, h5⟩ := putErr_zero he
    refine ⟨hr, fun k hk => ?_, fun k hk h0 => ?_, h.lo⟩
    · by_cases hl : k < vs.length
      · rw [List.getElem_append_left hl]; exact h.rng k hl
      · rw [List.getElem_append_right (by omega)]; simp; exact ⟨h1, h2⟩
    · by_cases hl : k < vs.length
      · rw [List.getElem_append_left hl]; exact h.tail k hl h0
      · rw [List.getElem_append_right (by omega)]; simp; exact h3
  · exact h
theorem good_prune {vs : List (Int × Int)} {m t : Int} (h : Sound vs m) : Sound (pruneVer vs m t) (pruneMark m t) := by
  have hr := prune_rises (m := m) (t := t) h.rises
  unfold pruneVer pruneMark at *
  by_cases hp : pruneErr t = 0
  · rw [if_pos hp] at hr
    rw [if_pos hp, if_pos hp]
    have ht : 0 ≤ t ∧ t ≤ 1125899906842624 := by
      unfold pruneErr at hp
      split at hp
      · cases hp
      · omega
    have hm := h.lo
    refine ⟨hr, fun k hk => ?_, fun k hk h0 => ?_, by omega⟩
    · rw [List.getElem_drop]; exact h.rng _ _
    · rw [List.getElem_drop]
      simp only [List.length_drop] at hk
      have := rises_cnt h.rises (max m t) (cnt vs (max m t) - 1 + k) (by omega)
      have h2 : ¬ (cnt vs (max m t) - 1 + k < cnt vs (max m t)) := by omega
      have h3 := fun e => h2 (this.2 e)
      omega
  · rw [if_neg hp, if_neg hp]; exact h
theorem good_step {c : List (Int × Int) × Int} {o : Op3} (h : Sound c.1 c.2) : Sound (stepOf c o).1 (stepOf c o).2 := by
  unfold stepOf
  split
  · exact good_put h
  split
  · exact good_prune h
  · exact h
theorem good_fold (l : List Op3) : ∀ c : List (Int × Int) × Int, Sound c.1 c.2 → Sound (l.foldl stepOf c).1 (l.foldl stepOf c).2 := by
  induction l with
  | nil => intro c h; exact h
  | cons o l ih => intro c h; exact ih _ (good_step h)
theorem good_made (l : List Op3) : Sound (madeOf l).1 (madeOf l).2 := good_fold _ _ good_nil

/-- What counts at a time, where one does. -/
theorem ver_at {vs : List (Int × Int)} {m a : Int} (h : getErr vs m a = 0) (hr : Rises vs) : ∃ c, ∃ hc : c < vs.length, cnt vs a = c + 1 ∧ getVer vs m a = vs[c] ∧ (vs[c]).1 ≤ a ∧ (∀ k (hk : k < vs.length), (vs[k]).1 ≤ a → (vs[k]).1 ≤ (vs[c]).1) := by
  have hp := getErr_pos h
  have hl := cnt_le vs a
  have hcl : cnt vs a - 1 < vs.length := by omega
  refine ⟨cnt vs a - 1, hcl, by omega, ?_, (rises_cnt hr a _ hcl).1 (by omega), fun k hk hka => ?_⟩
  · unfold getVer; rw [if_pos h, List.getD_eq_getElem?_getD, List.getElem?_eq_getElem hcl]; rfl
  · have := (rises_cnt hr a k hk).2 hka
    rcases Nat.lt_or_ge k (cnt vs a - 1) with h1 | h1
    · exact Int.le_of_lt (hr.lt k _ h1 hcl)
    · have e : k = cnt vs a - 1 := by omega
      subst e; exact Int.le_refl _
theorem ver_none {vs : List (Int × Int)} {m a : Int} (h : getErr vs m a ≠ 0) (hr : Rises vs) : getVer vs m a = (0, 0) ∧ (getErr vs m a = 114 → ∀ h0 : 0 < vs.length, a < (vs[0]).1) := by
  refine ⟨by unfold getVer; rw [if_neg h], fun e h0 => ?_⟩
  have hc : cnt vs a = 0 := by
    unfold getErr at e
    split at e
    · cases e
    split at e
    · cases e
    split at e
    · assumption
    · cases e
  have := (rises_cnt hr a 0 h0)
  have h2 : ¬ (0 < cnt vs a) := by omega
  have h3 := fun e => h2 (this.2 e)
  omega
end Go.Proofs.Ytpacbbnnmopkjaa
