/- The walk of moietyref11.Same. -/
import Derived.Test.YtpacbbnnmopkjaaCh1
set_option linter.unusedVariables false
set_option linter.unusedSimpArgs false
namespace Go.Proofs.Ytpacbbnnmopkjaa
open Go.RowKit

theorem add_next (a : Addr) (n : Nat) : a.add (n + 1) = ⟨(a.add n).block, (a.add n).off + 1, none⟩ := by
  unfold Addr.add
  by_cases h : n = 0
  · subst h; simp
  · simp [h]; omega
theorem Cells.ver {w : World} {A : Option Addr} {vs : List (Int × Int)} (h : Cells w A (vcs vs)) (k : Nat) (hk : k < vs.length) :
    ∃ ad, A = some ad ∧ w.cell? (ad.add (k * 2)) = some (.int .i64 (vs[k]).1) ∧ w.cell? ⟨(ad.add (k * 2)).block, (ad.add (k * 2)).off + 1, none⟩ = some (.int .i64 (vs[k]).2) := by
  obtain ⟨ad, rfl, h1⟩ := h.get _ _ (vcs_get vs k hk).1
  obtain ⟨ad2, e, h2⟩ := h.get _ _ (vcs_get vs k hk).2
  cases e
  rw [add_next] at h2
  exact ⟨ad, rfl, h1, h2⟩

set_option maxHeartbeats 1000000 in
set_option maxRecDepth 100000 in
theorem same_calls (A B : Option Addr) (n c m d : Nat) (l k : List (Int × Int)) (w : World) (hn : n = l.length) (hA : Cells w A (vcs l)) (hm : m = k.length) (hB : Cells w B (vcs k)) :
    Calls Try.prog 18 #[.slice A n c, .slice B m d] w fun e w' => e = .returned (.bool (decide (l = k))) ∧ ∃ j, w' = w.drewN j := by
  subst hn hm
  have hl : l.length ≤ 4611686018427387904 := by have := hA.small; rw [vcs_length] at this; omega
  have hk : k.length ≤ 4611686018427387904 := by have := hB.small; rw [vcs_length] at this; omega
  by_cases hlen : l.length = k.length
  · have HA := Lib.hid (fun j (hj : j < l.length) => hA.ver j hj)
    have HB := Lib.hid (fun j (hj : j < k.length) => hB.ver j hj)
    have HM := Lib.hid hlen
    rw [← hlen]
    clear hA hB hlen hk
    have heq : ((l.length : Int) != (l.length : Int)) = false := by simp
    go_enter Try.func18, Try.ntmps18
    go_wp2
    go_loopw [5] (fun i wr => ∃ j : Nat, j ≤ l.length ∧ i = .int .i64 j ∧ l.take j = k.take j ∧ ∃ q, wr = w.drewN q) (fun i _ => l.length - (intOf i).toNat)
    case atStart => exact ⟨0, Nat.zero_le _, rfl, by simp, 0, rfl⟩
    case round =>
      obtain ⟨j, hj, rfl, hpre, q, rfl⟩ := hrel
      have HP := Lib.hid hpre
      clear hpre
      by_cases hlt : j < l.length
      · have hlt2 : j < k.length := by have := HM.out; omega
        obtain ⟨ad, rfl, ca, ca2⟩ := HA.out j hlt
        obtain ⟨bd, rfl, cb, cb2⟩ := HB.out j hlt2
        obtain ⟨x, hx⟩ : ∃ x, x = l[j] := ⟨_, rfl⟩
        obtain ⟨y, hy⟩ : ∃ y, y = k[j] := ⟨_, rfl⟩
        rw [← hx] at ca ca2
        rw [← hy] at cb cb2
        have HX := Lib.hid hx
        have HY := Lib.hid hy
        clear hx hy
        obtain ⟨x1, x2⟩ := x
        obtain ⟨y1, y2⟩ := y
        simp only at ca ca2 cb cb2
        by_cases h1 : x1 = y1
        · have hb1 : (x1 != y1) = false := by simpa using h1
          have H1 := Lib.hid h1
          clear h1
          by_cases h2 : x2 = y2
          · have hb2 : (x2 != y2) = false := by simpa using h2
            have H2 := Lib.hid h2
            clear h2
            go_wp2
            go_quiet (fail)
            go_wp2
            go_roundw
            case rel => exact ⟨j + 1, by omega, by go_num, by rw [List.take_succ_eq_append_getElem hlt, List.take_succ_eq_append_getElem hlt2, HP.out, ← HX.out, ← HY.out, H1.out, H2.out], _, rfl⟩
            case measure => simp [intOf]; omega
          · have hb2 : (x2 != y2) = true := by simpa using h2
            have hb3 : (x2 == y2) = false := by simpa using h2
            have hne : l ≠ k := fun e => h2 (by subst e; have := HX.out.trans HY.out.symm; simp at this; exact this.2)
            have HDD := Lib.hid (show decide (l = k) = false by simpa using hne)
            clear hne h2
            go_wp2
            go_quiet (fail)
            go_wp2
            go_ret
            exact ⟨by rw [HDD.out]; rfl, q + nq, by rw [World.drewN_drewN]⟩
        · have hb1 : (x1 != y1) = true := by simpa using h1
          have hb3 : (x1 == y1) = false := by simpa using h1
          have hne : l ≠ k := fun e => h1 (by subst e; have := HX.out.trans HY.out.symm; simp at this; exact this.1)
          have HDD := Lib.hid (show decide (l = k) = false by simpa using hne)
          clear hne h1
          go_wp2
          go_quiet (fail)
          go_wp2
          go_ret
          exact ⟨by rw [HDD.out]; rfl, q + nq, by rw [World.drewN_drewN]⟩
      · have hall : l = k := by
          have h1 := HP.out
          have h2 := HM.out
          rwa [List.take_of_length_le (by omega), List.take_of_length_le (by omega)] at h1
        have HDD := Lib.hid (show decide (l = k) = true by simpa using hall)
        clear hall
        go_wp2
        go_ret
        exact ⟨by rw [HDD.out]; rfl, _, rfl⟩
  · have hne : l ≠ k := fun h => hlen (by rw [h])
    have HDD := Lib.hid (show decide (l = k) = false by simpa using hne)
    have hn : ¬ (l.length : Int) = (k.length : Int) := by omega
    clear hlen hne
    go_enter Try.func18, Try.ntmps18
    go_wp2
    go_ret
    exact ⟨by rw [HDD.out]; rfl, 0, rfl⟩
end Go.Proofs.Ytpacbbnnmopkjaa
