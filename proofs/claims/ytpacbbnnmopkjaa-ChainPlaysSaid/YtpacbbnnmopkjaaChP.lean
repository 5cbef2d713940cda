/- Plain laws of chains. -/
import Derived.Test.YtpacbbnnmopkjaaCh7
set_option linter.unusedVariables false
set_option linter.unusedSimpArgs false
namespace Go.Proofs.Ytpacbbnnmopkjaa

theorem cnt_cons (v : Int × Int) (vs : List (Int × Int)) (a : Int) : cnt (v :: vs) a = (if v.1 ≤ a then 1 else 0) + cnt vs a := by
  unfold cnt; rw [List.countP_cons]
  by_cases h : v.1 ≤ a <;> simp [h]; omega
theorem cnt_append (l k : List (Int × Int)) (a : Int) : cnt (l ++ k) a = cnt l a + cnt k a := by unfold cnt; rw [List.countP_append]
theorem cnt_zero {vs : List (Int × Int)} {a : Int} (h : ∀ v ∈ vs, a < v.1) : cnt vs a = 0 := by
  unfold cnt; rw [List.countP_eq_zero]; intro v hv; have := h v hv; simp; omega
theorem cnt_all {vs : List (Int × Int)} {a : Int} (h : ∀ v ∈ vs, v.1 ≤ a) : cnt vs a = vs.length := by
  unfold cnt; rw [List.countP_eq_length]; intro v hv; have := h v hv; simpa using this
theorem rises_cnt {vs : List (Int × Int)} (hr : Rises vs) (a : Int) : ∀ k (hk : k < vs.length), (k < cnt vs a ↔ (vs[k]).1 ≤ a) := by
  induction vs with
  | nil => intro k hk; simp at hk
  | cons v vs ih =>
    have hr2 : Rises vs := (List.pairwise_cons.1 hr).2
    have hv := (List.pairwise_cons.1 hr).1
    intro k hk
    rw [cnt_cons]
    by_cases h : v.1 ≤ a
    · rw [if_pos h]
      cases k with
      | zero => simp [h]; omega
      | succ k =>
        have := ih hr2 k (by simpa using hk)
        simp only [List.getElem_cons_succ]
        rw [← this]; omega
    · rw [if_neg h, cnt_zero (fun u hu => by have := hv u hu; omega)]
      constructor
      · intro h0; omega
      · intro h0
        exfalso
        cases k with
        | zero => exact h h0
        | succ k =>
          simp only [List.getElem_cons_succ] at h0
          have := hv _ (List.getElem_mem (show k < vs.length by simpa using hk))
          omega
theorem cnt_mono {vs : List (Int × Int)} {a b : Int} (h : a ≤ b) : cnt vs a ≤ cnt vs b := by
  unfold cnt
  exact List.countP_mono_left (fun v _ hv => by simp at hv ⊢; omega)
theorem cnt_drop {vs : List (Int × Int)} (hr : Rises vs) {a : Int} {d : Nat} (hd : d ≤ cnt vs a) : cnt (vs.drop d) a = cnt vs a - d := by
  have h1 : cnt vs a = cnt (vs.take d) a + cnt (vs.drop d) a := by rw [← cnt_append, List.take_append_drop]
  have h2 : cnt (vs.take d) a = d := by
    have hl := cnt_le vs a
    rw [cnt_all, List.length_take]
    · omega
    · intro v hv
      obtain ⟨k, hk, rfl⟩ := List.getElem_of_mem hv
      simp only [List.length_take] at hk
      rw [List.getElem_take]
      exact (rises_cnt hr a k (by omega)).1 (by omega)
  omega
theorem getErr_pos {vs : List (Int × Int)} {m a : Int} (h : getErr vs m a = 0) : cnt vs a ≠ 0 := by
  intro e
  unfold getErr at h
  rw [if_pos e] at h
  split at h
  · cases h
  split at h <;> cases h
/-- A put above a time changes nothing there. -/
theorem put_stays (vs : List (Int × Int)) (m t v a : Int) (h : a < t) : getErr (putVer vs m t v) m a = getErr vs m a ∧ getVer (putVer vs m t v) m a = getVer vs m a := by
  unfold putVer
  split
  · have hc : cnt (vs ++ [(t, v)]) a = cnt vs a := by rw [cnt_append, cnt_zero (vs := [(t, v)]) (by simpa using h)]; rfl
    have he : getErr (vs ++ [(t, v)]) m a = getErr vs m a := by unfold getErr; rw [hc]
    refine ⟨he, ?_⟩
    unfold getVer
    rw [he]
    split
    · rename_i h0
      have hpos := getErr_pos h0
      have := cnt_le vs a
      rw [hc, List.getD_eq_getElem?_getD, List.getD_eq_getElem?_getD, List.getElem?_append_left (by omega)]
    · rfl
  · exact ⟨rfl, rfl⟩
/-- Nor does a pruning up to there. -/
theorem prune_stays (vs : List (Int × Int)) (m t a : Int) (hr : Rises vs) (h : t ≤ a) : getErr (pruneVer vs m t) (pruneMark m t) a = getErr vs m a ∧ getVer (pruneVer vs m t) (pruneMark m t) a = getVer vs m a := by
  unfold pruneVer pruneMark
  by_cases hp : pruneErr t = 0
  · rw [if_pos hp, if_pos hp]
    by_cases hm : a < m
    · have e : ∀ l : List (Int × Int), ∀ k, m ≤ k → getErr l k a = if a < 0 ∨ 1125899906842624 < a then 110 else 113 := by
        intro l k hk; unfold getErr
        split
        · rfl
        · rw [if_pos (by omega)]
      have e1 := e (vs.drop (cnt vs (max m t) - 1)) (max m t) (by omega)
      have e2 := e vs m (Int.le_refl _)
      refine ⟨by rw [e1, e2], ?_⟩
      unfold getVer
      rw [e1, e2]
      have : (if a < 0 ∨ 1125899906842624 < a then (110 : Int) else 113) ≠ 0 := by split <;> decide
      rw [if_neg this, if_neg this]
    · have hM : max m t ≤ a := by omega
      generalize max m t = M at hM ⊢
      have hmono := cnt_mono (vs := vs) hM
      have hc := cnt_drop hr (a := a) (d := cnt vs M - 1) (by omega)
      have hz : (cnt vs a - (cnt vs M - 1) = 0) ↔ (cnt vs a = 0) := by omega
      have he : getErr (vs.drop (cnt vs M - 1)) M a = getErr vs m a := by
        unfold getErr
        rw [hc, if_neg (show ¬ a < M by omega), if_neg hm]
        split
        · rfl
        by_cases h0 : cnt vs a = 0
        · rw [if_pos (hz.2 h0), if_pos h0]
        · rw [if_neg (fun e => h0 (hz.1 e)), if_neg h0]
      refine ⟨he, ?_⟩
      unfold getVer
      rw [he]
      split
      · rename_i h0
        have hpos := getErr_pos h0
        rw [hc, List.getD_eq_getElem?_getD, List.getD_eq_getElem?_getD, List.getElem?_drop]
        congr 2; omega
      · rfl
  · rw [if_neg hp, if_neg hp]; exact ⟨rfl, rfl⟩
end Go.Proofs.Ytpacbbnnmopkjaa
