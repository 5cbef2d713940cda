/- The walk of moietyref16.Fate. -/
import Derived.Test.YtpacbbnnmopkjaaRp1
set_option linter.unusedVariables false
set_option linter.unusedSimpArgs false
namespace Go.Proofs.Ytpacbbnnmopkjaa
open Go.RowKit

theorem rfate_one (x : Sd) : rfate [x] = if x.kind = 1 then (2, x.t) else if x.kind = 2 ∨ (x.kind = 0 ∧ x.yes = false) then (3, 0) else (0, 0) := rfl
set_option maxHeartbeats 4000000 in
set_option maxRecDepth 100000 in
theorem rfate_calls (i f t n : Value) (A : Option Addr) (m c : Nat) (l : List Sd) (w : World) (hm : m = l.length) (hA : Cells w A (sds l)) :
    Calls Try.prog 35 #[.agg #[i, f, t, n, .slice A m c]] w fun e w' => e = .returned (.tuple #[.int .i64 (rfate l).1, .int .i64 (rfate l).2]) ∧ Below w.heap.size w w' := by
  subst hm
  have hlen : l.length ≤ 2305843009213693952 := by have := hA.small; rw [sds_length] at this; omega
  obtain ⟨W0, hW0⟩ : ∃ W0, W0 = w.alloc (.cells #[i, f, t, n, .slice A l.length c] 65) := ⟨_, rfl⟩
  have b0 : Below w.heap.size w W0 := by rw [hW0]; exact pbelow_one _ _
  have n2 : Blk W0 w.heap.size 65 #[i, f, t, n, .slice A l.length c] := by rw [hW0]; exact Blk.new w 65 _
  have HA := Lib.hid (hA.below b0)
  have HW0 := Lib.hid hW0
  have B0 := Lib.hid b0
  have N2 := Lib.hid n2
  clear hA b0 n2 hW0
  go_enter Try.func35, Try.ntmps35
  go_wp2
  rw [← HW0.out]
  go_loopw [4] (fun i wr => ∃ k : Nat, k ≤ l.length ∧ i = .int .i64 k ∧ rfate (l.take k) = (0, 0) ∧ Below W0.heap.size W0 wr) (fun i _ => l.length - (intOf i).toNat)
  case atStart => exact ⟨0, Nat.zero_le _, rfl, rfl, Below.refl _ _⟩
  case round =>
    obtain ⟨k, hk, rfl, hv, hb⟩ := hrel
    have HB := Lib.hid hb
    have c4 : wr.cell? ⟨w.heap.size, 4, Option.none⟩ = some (.slice A l.length c) := (N2.out.below hb).cell 4 _ rfl
    have hsz := hb.size
    clear hb
    by_cases hlt : k < l.length
    · obtain ⟨ad, rfl, d0, d1, d2, d3⟩ := (HA.out.below HB.out).said k hlt
      have hnx := rfate_take hlt hv
      have HRE := Lib.hid (fun (h : (rfate (l.take (k + 1))).1 ≠ 0) => rfate_prefix h)
      obtain ⟨s, hs⟩ : ∃ s, s = l[k] := ⟨_, rfl⟩
      rw [← hs] at d0 d1 d2 d3 hnx
      rw [rfate_one] at hnx
      clear hs hv
      obtain ⟨sk, sp, sy, st⟩ := s
      simp only at d0 d1 d2 d3 hnx
      have hb1 : Below W0.heap.size W0 (wr.alloc (.cells #[.int .i64 sk, .bool sp, .bool sy, .int .i64 st] 67)) := HB.out.alloc hsz _
      by_cases h1 : sk = 1
      · rw [if_pos h1] at hnx
        have hfd := HRE.out (by rw [hnx]; intro h; cases h)
        rw [hnx] at hfd
        have HFD := Lib.hid hfd
        have hkb : (sk == 1) = true := by simpa using h1
        have HB1 := Lib.hid hb1
        have n5 := Blk.new wr 67 #[.int .i64 sk, .bool sp, .bool sy, .int .i64 st]
        have HN5 := Lib.hid n5
        clear hnx hfd h1 hb1 n5 HRE
        go_upto_region 5 with fail
        generalize wr.alloc (Obj.cells #[.int .i64 sk, .bool sp, .bool sy, .int .i64 st] 67) = W5 at HB1 HN5 ⊢
        generalize wr.heap.size = b5 at HN5 ⊢
        have x0 : W5.cell? ⟨b5, 0, Option.none⟩ = some (.int .i64 sk) := HN5.out.cell 0 _ rfl
        have x3 : W5.cell? ⟨b5, 3, Option.none⟩ = some (.int .i64 st) := HN5.out.cell 3 _ rfl
        go_wp2_with fail
        go_quiet (fail)
        go_wp2
        go_ret2
        exact ⟨by rw [HFD.out]; rfl, B0.out.trans ((HB1.out.mono (Nat.le_refl _)).trans (pbelow_drewN2 W5 _ |>.mono (Nat.le_trans (Nat.le_refl _) HB1.out.size)) |>.mono B0.out.size)⟩
      · rw [if_neg h1] at hnx
        have hkb : (sk == 1) = false := by simpa using h1
        by_cases h2 : sk = 2 ∨ (sk = 0 ∧ sy = false)
        · rw [if_pos h2] at hnx
          have hfd := HRE.out (by rw [hnx]; intro h; cases h)
          rw [hnx] at hfd
          have HFD := Lib.hid hfd
          have HB1 := Lib.hid (B0.out.trans (hb1.mono B0.out.size))
          clear hnx hfd hb1 HRE h1
          rcases h2 with h2 | ⟨h2, h3⟩
          · subst h2
            clear hkb
            go_wp2
            go_ret2
            exact ⟨by rw [HFD.out]; rfl, HB1.out⟩
          · subst h2 h3
            clear hkb
            go_wp2
            go_ret2
            exact ⟨by rw [HFD.out]; rfl, HB1.out⟩
        · rw [if_neg h2] at hnx
          have HNX := Lib.hid hnx
          have HB1 := Lib.hid hb1
          have hk2 : (sk == 2) = false := by simp; omega
          have hor : (sk == 0) = false ∨ sk = 0 ∧ sy = true := by
            by_cases h : sk = 0
            · right; refine ⟨h, ?_⟩
              cases sy
              · exact absurd (.inr ⟨h, rfl⟩) h2
              · rfl
            · left; simpa using h
          clear hnx hb1 HRE h1 h2
          rcases hor with h0 | ⟨rfl, rfl⟩
          · go_wp2
            go_roundw
            case rel => exact ⟨k + 1, by omega, by go_num, HNX.out, HB1.out⟩
            case measure => simp [intOf]; omega
          · clear hkb hk2
            go_wp2
            go_roundw
            case rel => exact ⟨k + 1, by omega, by go_num, HNX.out, HB1.out⟩
            case measure => simp [intOf]; omega
    · obtain rfl : k = l.length := by omega
      have hfin : rfate l = (0, 0) := by rwa [List.take_of_length_le (Nat.le_refl _)] at hv
      have HFI := Lib.hid hfin
      have HB1 := Lib.hid (B0.out.trans (HB.out.mono B0.out.size))
      clear hfin hv
      go_wp2
      go_ret2
      exact ⟨by rw [HFI.out]; rfl, HB1.out⟩
end Go.Proofs.Ytpacbbnnmopkjaa
