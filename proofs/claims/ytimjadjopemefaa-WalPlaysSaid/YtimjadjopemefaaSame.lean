/- moietyref03.Same, against a list of texts that is cut off another one. -/
import Derived.Test.YtimjadjopemefaaLw2
set_option linter.unusedVariables false
set_option linter.unusedSimpArgs false
namespace Go.Proofs.Ytimjadjopemefaa
open Go.RowKit
attribute [local go_sem] str_size str_get str_toList str_append str_extract
/-- As lists: the same? -/
theorem same_cells (v : Value) (B : Option Addr) (m d : Nat) (ls ms : List (List UInt8)) (base : Nat) (w : World) (hv : Loads w base v ls) (hm0 : m = ms.length) (hcB : Cells w B (strs ms)) (hl : ls.length ≤ 1000000000) (hm : ms.length ≤ 1000000000) :
    Calls Try.prog 33 #[v, .slice B m d] w fun e w' => e = .returned (.bool (decide (ls = ms))) ∧ ∃ k, w' = w.drewN k := by
  subst hm0
  obtain ⟨vs, hrow, hfull⟩ := hv.row
  obtain ⟨A, c, rfl, hc, hvl, hcA, _⟩ := hrow.cells1
  have HF := Lib.hid hfull
  clear hfull hv hrow
  by_cases hlen : ls.length = ms.length
  · have hcA2 : ∀ k (hk : k < ls.length), ∃ ad A3, A = some ad ∧ w.cell? (ad.add k) = some (.slice A3 (ls[k]'hk).length (ls[k]'hk).length) ∧ Cells w A3 (byts (ls[k]'hk)) := fun k hk => by
      have hk2 : k < vs.length := by omega
      obtain ⟨ad, e, hcell⟩ := hcA.get k _ (List.getElem?_eq_getElem hk2)
      obtain ⟨A3, hv3, hc3, _⟩ := HF.out k _ _ (List.getElem?_eq_getElem hk2) (List.getElem?_eq_getElem hk)
      exact ⟨ad, A3, e, by rw [hcell, hv3], hc3⟩
    have hcB2 : ∀ k (hk : k < ms.length), ∃ ad, B = some ad ∧ w.cell? (ad.add k) = some (.string (str (ms[k]'hk))) := fun k hk => hcB.get k _ (by simp [strs, hk])
    have HA := Lib.hid hcA2
    have HB := Lib.hid hcB2
    have HM := Lib.hid hlen
    rw [← hlen]
    clear hcA2 hcB2 hcA hcB HF hvl hlen hm
    have heq : ((ls.length : Int) != (ls.length : Int)) = false := by simp
    go_enter Try.func33, Try.ntmps33
    go_wp2
    go_loopw [5] (fun i wr => ∃ k : Nat, k ≤ ls.length ∧ i = .int .i64 k ∧ ls.take k = ms.take k ∧ ∃ j, wr = w.drewN j) (fun i _ => ls.length - (intOf i).toNat)
    case atStart => exact ⟨0, Nat.zero_le _, rfl, by simp, 0, rfl⟩
    case round =>
      obtain ⟨k, hk, rfl, hpre, j, rfl⟩ := hrel
      have HP := Lib.hid hpre
      clear hpre
      by_cases hlt : k < ls.length
      · have hlt2 : k < ms.length := by have := HM.out; omega
        obtain ⟨ad, A3, rfl, hca, hc3⟩ := HA.out k hlt
        obtain ⟨bd, rfl, hcb⟩ := HB.out k hlt2
        obtain ⟨x, hx⟩ : ∃ x, x = ls[k] := ⟨_, rfl⟩
        obtain ⟨y, hy⟩ : ∃ y, y = ms[k] := ⟨_, rfl⟩
        rw [← hx] at hca hc3
        rw [← hy] at hcb
        have hconv : ∀ nq, (convert 22 9 (.slice A3 x.length x.length)).run Try.prog (w.drewN nq) = .ok (.string (str x)) (w.drewN nq) := fun nq =>
          run_string 22 9 5 Try.underlying22 Try.underlying5 Try.underlying9 A3 x.length x (hc3.drewN nq)
        have HX := Lib.hid hx
        have HY := Lib.hid hy
        clear hx hy hc3
        by_cases hxy : x = y
        · have hb : (x == y) = true := by simpa using hxy
          have hb2 : (x != y) = false := by simpa using hxy
          have HXY := Lib.hid hxy
          clear hxy
          go_wp2
          go_quiet (fail)
          go_wp2
          go_roundw
          case rel => exact ⟨k + 1, by omega, by go_num, by rw [List.take_succ_eq_append_getElem hlt, List.take_succ_eq_append_getElem hlt2, HP.out, ← HX.out, ← HY.out, HXY.out], _, rfl⟩
          case measure => simp [intOf]; omega
        · have hb : (x == y) = false := by simpa using hxy
          have hb2 : (x != y) = true := by simpa using hxy
          have hne : ls ≠ ms := fun e => hxy (by rw [HX.out, HY.out]; simp [e])
          have hdd : decide (ls = ms) = false := by simpa using hne
          have HDD := Lib.hid hdd
          clear hxy hdd hne
          go_wp2
          go_quiet (fail)
          go_wp2
          go_ret
          exact ⟨by rw [HDD.out]; rfl, j + nq, by rw [World.drewN_drewN]⟩
      · have hall : ls = ms := by
          have h1 := HP.out
          have h2 := HM.out
          rwa [List.take_of_length_le (by omega), List.take_of_length_le (by omega)] at h1
        have HDD := Lib.hid (show decide (ls = ms) = true by simpa using hall)
        clear hall
        go_wp2
        go_ret
        exact ⟨by rw [HDD.out]; rfl, _, rfl⟩
  · have hne : ls ≠ ms := fun h => hlen (by rw [h])
    have hd : decide (ls = ms) = false := by simpa using hne
    have HDD := Lib.hid hd
    have hn : ¬ (ls.length : Int) = (ms.length : Int) := by omega
    clear hd hlen hne hvl
    go_enter Try.func33, Try.ntmps33
    go_wp2
    go_ret
    exact ⟨by rw [HDD.out]; rfl, 0, rfl⟩
end Go.Proofs.Ytimjadjopemefaa
