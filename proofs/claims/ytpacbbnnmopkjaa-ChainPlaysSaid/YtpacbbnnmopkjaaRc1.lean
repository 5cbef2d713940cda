/- The walks of moietyref11's Counts and Get. -/
import Derived.Test.YtpacbbnnmopkjaaCh6
import Derived.Test.YtpacbbnnmopkjaaChG
set_option linter.unusedVariables false
set_option linter.unusedSimpArgs false
namespace Go.Proofs.Ytpacbbnnmopkjaa
open Go.RowKit

theorem cnt_take_yes {vs : List (Int × Int)} (hr : Rises vs) {a : Int} {k : Nat} (hk : k < vs.length) (h : (vs[k]).1 ≤ a) : cnt (vs.take (k + 1)) a = k + 1 := by
  rw [cnt_all, List.length_take]
  · omega
  · intro v hv
    obtain ⟨j, hj, rfl⟩ := List.getElem_of_mem hv
    simp only [List.length_take] at hj
    rw [List.getElem_take]
    rcases Nat.lt_or_ge j k with h1 | h1
    · have := hr.lt j k h1 hk; omega
    · obtain rfl : j = k := by omega
      exact h
theorem cnt_take_no {vs : List (Int × Int)} {a : Int} {k : Nat} (hk : k < vs.length) (h : ¬ (vs[k]).1 ≤ a) : cnt (vs.take (k + 1)) a = cnt (vs.take k) a := by
  rw [List.take_succ_eq_append_getElem hk, cnt_append, cnt_zero (vs := [vs[k]])]
  · omega
  · intro v hv; simp at hv; subst hv; omega

set_option maxHeartbeats 1000000 in
set_option maxRecDepth 100000 in
theorem counts_calls (A : Option Addr) (n c : Nat) (vs : List (Int × Int)) (a : Int) (w : World) (hn : n = vs.length) (hA : Cells w A (vcs vs)) (hr : Rises vs) (hs : vs.length ≤ 10000) :
    Calls Try.prog 56 #[.slice A n c, .int .i64 a] w fun e w' => e = .returned (.int .i64 ((cnt vs a : Int) - 1)) ∧ w = w' := by
  subst hn
  have HA := Lib.hid (fun j (hj : j < vs.length) => hA.ver j hj)
  clear hA
  go_enter Try.func56, Try.ntmps56
  go_wp2
  go_loopw [5, 6] (fun o i wr => ∃ k : Nat, k ≤ vs.length ∧ i = .int .i64 k ∧ o = .int .i64 ((cnt (vs.take k) a : Int) - 1) ∧ wr = w) (fun _ i _ => vs.length - (intOf i).toNat)
  case atStart => exact ⟨0, Nat.zero_le _, rfl, rfl, rfl⟩
  case round =>
    obtain ⟨k, hk, rfl, rfl, rfl⟩ := hrel
    by_cases hlt : k < vs.length
    · obtain ⟨ad, rfl, d0, _⟩ := HA.out k hlt
      by_cases hle : (vs[k]).1 ≤ a
      · have hct := cnt_take_yes hr hlt hle
        obtain ⟨T, hT⟩ : ∃ T, T = (vs[k]).1 := ⟨_, rfl⟩
        rw [← hT] at d0 hle
        have HCT := Lib.hid hct
        clear hT hct
        go_wp2
        go_roundw
        case rel => exact ⟨k + 1, by omega, by go_num, by rw [HCT.out]; go_num, trivial⟩
        case measure => simp [intOf]; omega
      · have hct := cnt_take_no hlt hle
        obtain ⟨T, hT⟩ : ∃ T, T = (vs[k]).1 := ⟨_, rfl⟩
        rw [← hT] at d0 hle
        have HCT := Lib.hid hct
        clear hT hct
        go_wp2
        go_roundw
        case rel => exact ⟨k + 1, by omega, by go_num, by rw [HCT.out], trivial⟩
        case measure => simp [intOf]; omega
    · obtain rfl : k = vs.length := by omega
      clear HA
      have hfin : cnt (vs.take vs.length) a = cnt vs a := by rw [List.take_of_length_le (Nat.le_refl _)]
      have HF := Lib.hid hfin
      clear hfin
      go_wp2
      go_ret
      exact ⟨by rw [← HF.out]; rfl, rfl⟩
end Go.Proofs.Ytpacbbnnmopkjaa
