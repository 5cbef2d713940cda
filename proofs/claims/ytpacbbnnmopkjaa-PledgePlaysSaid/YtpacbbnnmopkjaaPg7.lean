/- The walk of moietyref16.Same, at two slices that read alike. -/
import Derived.Test.YtpacbbnnmopkjaaPg6
set_option linter.unusedVariables false
set_option linter.unusedSimpArgs false
namespace Go.Proofs.Ytpacbbnnmopkjaa
open Go.RowKit

theorem Cells.bl {w : World} {A : Option Addr} {l : List Bool} (h : Cells w A (bls l)) (k : Nat) (hk : k < l.length) : ∃ ad, A = some ad ∧ w.cell? (ad.add k) = some (.bool l[k]) :=
  h.get k _ (by simp [bls, hk])
set_option maxHeartbeats 1000000 in
set_option maxRecDepth 100000 in
theorem psame_calls (A B : Option Addr) (n c m d : Nat) (l : List Bool) (w : World) (hn : n = l.length) (hm : m = l.length) (hA : Cells w A (bls l)) (hB : Cells w B (bls l)) :
    Calls Try.prog 38 #[.slice A n c, .slice B m d] w fun e w' => e = .returned (.bool true) ∧ ∃ j, w' = w.drewN j := by
  subst hn hm
  have hl : l.length ≤ 9223372036854775807 := by have := hA.small; rwa [bls_length] at this
  have HA := Lib.hid (fun j (hj : j < l.length) => hA.bl j hj)
  have HB := Lib.hid (fun j (hj : j < l.length) => hB.bl j hj)
  clear hA hB
  go_enter Try.func38, Try.ntmps38
  go_wp2
  go_loopw [5] (fun i wr => ∃ j : Nat, j ≤ l.length ∧ i = .int .i64 j ∧ ∃ q, wr = w.drewN q) (fun i _ => l.length - (intOf i).toNat)
  case atStart => exact ⟨0, Nat.zero_le _, rfl, 0, rfl⟩
  case round =>
    obtain ⟨j, hj, rfl, q, rfl⟩ := hrel
    by_cases hlt : j < l.length
    · obtain ⟨ad, rfl, ca⟩ := HA.out j hlt
      obtain ⟨bd, rfl, cb⟩ := HB.out j hlt
      generalize l[j] = b at ca cb
      cases b
      · go_wp2
        go_quiet (fail)
        go_wp2
        go_roundw
        case rel => exact ⟨j + 1, by omega, by go_num, _, rfl⟩
        case measure => simp [intOf]; omega
      · go_wp2
        go_quiet (fail)
        go_wp2
        go_roundw
        case rel => exact ⟨j + 1, by omega, by go_num, _, rfl⟩
        case measure => simp [intOf]; omega
    · go_wp2
      go_ret
      exact ⟨rfl, _, rfl⟩
end Go.Proofs.Ytpacbbnnmopkjaa
