/- ChainSteps: the walk of the law. -/
import Derived.Test.YtpacbbnnmopkjaaCh8
import Derived.Test.YtpacbbnnmopkjaaCh6
import Derived.Test.YtpacbbnnmopkjaaChG
import Derived.Deep.Cut
set_option linter.unusedVariables false
set_option linter.unusedSimpArgs false
namespace Go.Proofs.Ytpacbbnnmopkjaa
open Go.RowKit

theorem quiet_ce {P : Program} {f : FuncId} {args : Array Value} {w : World} {k x : Nat} {v : Value}
    (h : Calls P f args (w.drewN (k + x)) fun e w' => e = .returned v ∧ w.drewN (k + x) = w') : Calls P f args (w.drewN (k + x)) fun e w'' => e = .returned v ∧ ∃ n, w'' = w.drewN (k + n) :=
  h.mono fun e w' ⟨he, hw⟩ => ⟨he, x, hw.symm⟩

set_option maxHeartbeats 1000000 in
set_option maxRecDepth 100000 in
theorem chainSteps_walk (A0 : Option Addr) (n0 c0 : Nat) (ls : List Op3) (at_ : Int) (w : World) (w0 : n0 = ls.length ∧ Cells w A0 (ocs ls)) (wa : (Lit.int .i64 at_).wf = true) :
    Calls Try.prog 5 #[.slice A0 n0 c0, .int .i64 at_] w fun e w' => e = .returned (.bool true) ∧ Below w.heap.size w w' := by
  obtain ⟨rfl, hc⟩ := w0
  have hgood := good_made ls
  obtain ⟨st, hst⟩ : ∃ st, st = madeOf ls := ⟨_, rfl⟩
  rw [← hst] at hgood
  go_enter Try.func5, Try.ntmps5
  go_wp2_with fail
  refine (made_calls A0 _ c0 ls w rfl hc).mono ?_
  rintro e w1 ⟨rfl, h1, hr, B1⟩
  rw [← hst] at h1 hr
  clear hc hst
  obtain ⟨vs, m⟩ := st
  simp only at h1 hr hgood
  have HG := Lib.hid hgood
  have hs := h1.small
  clear hgood
  go_wp2_with fail
  refine (awake_calls w1).mono ?_
  rintro e w2 ⟨rfl, b2⟩
  have h2 := h1.below b2
  have B2 := B1.trans (b2.mono B1.size)
  clear h1 b2 B1
  go_wp2_with fail
  refine (get_calls _ _ vs m at_ w2 h2 hr).mono ?_
  rintro e w3 ⟨rfl, b3⟩
  obtain ⟨x0, hx0⟩ : ∃ x, x = getVer vs m at_ := ⟨_, rfl⟩
  obtain ⟨e0, he0⟩ : ∃ x, x = getErr vs m at_ := ⟨_, rfl⟩
  rw [← hx0, ← he0, show vagg x0 = .agg #[.int .i64 x0.1, .int .i64 x0.2] from rfl]
  have HX0 := Lib.hid hx0
  have HE0 := Lib.hid he0
  have b3' := b3.alloc b3.size (.cells #[.int .i64 x0.1, .int .i64 x0.2] 34)
  have h4 := h2.below b3'
  have X4 := Blk.new w3 34 #[.int .i64 x0.1, .int .i64 x0.2]
  have B4 := B2.trans (b3'.mono B2.size)
  clear h2 b3 B2 b3' hx0 he0
  go_wp2_with fail
  refine (list_calls _ _ vs m _ h4).mono ?_
  rintro e w5 ⟨v5, rfl, r5, b5⟩
  have h5 := h4.below b5
  have X5 := X4.below b5
  have B5 := B4.trans (b5.mono B4.size)
  obtain ⟨A, c, rfl, hcc, _, hA, _⟩ := r5.cells (by rw [vcs_length]; omega)
  have HA := Lib.hid (fun j (hj : j < vs.length) => hA.ver j hj)
  have HM := Lib.hid (fun q => mark_calls w.heap.size _ vs m (w5.drewN q) (h5.below (below_drewN (Below.refl _ _) q)))
  clear h4 X4 B4 b5 r5 hA h5
  obtain ⟨n, hn⟩ : ∃ n, n = vs.length := ⟨_, rfl⟩
  have HN := Lib.hid hn
  rw [← hn] at hs hcc ⊢
  clear hn
  go_wp2
  go_loopw [9] (fun i wr => ∃ k : Nat, k ≤ n ∧ i = .int .i64 k ∧ ∃ q, wr = w5.drewN q) (fun i _ => n - (intOf i).toNat)
  case atStart => exact ⟨0, Nat.zero_le _, rfl, 0, rfl⟩
  case round =>
    obtain ⟨k, hk, rfl, q, rfl⟩ := hrel
    by_cases hlt : k < n
    · have hkv : k < vs.length := by rw [← HN.out]; exact hlt
      obtain ⟨ad, rfl, d0, d1⟩ := HA.out k hkv
      obtain ⟨g1, g2⟩ := HG.out.rng k hkv
      rcases Nat.eq_zero_or_pos k with hk0 | hk0
      · obtain ⟨T, hT⟩ : ∃ T, T = (vs[k]).1 := ⟨_, rfl⟩
        rw [← hT] at d0 g1 g2
        have b1 : decide (T < 1) = false := by simp; omega
        have b2 : decide (1125899906842624 < T) = false := by simp; omega
        have b5 : decide (0 < k) = false := by simp; omega
        clear hT g1 g2 d1 hk0
        go_upto_region 9 with fail
        go_quiet (fail)
        go_wp2
        go_roundw
        case rel => exact ⟨k + 1, by omega, by go_num, _, rfl⟩
        case measure => simp [intOf]; omega
      · obtain ⟨j, rfl⟩ : ∃ j, k = j + 1 := ⟨k - 1, by omega⟩
        have g3 := HG.out.tail _ hkv hk0
        have g4 := HG.out.rises.lt j (j + 1) (by omega) hkv
        obtain ⟨ad', e, d2, _⟩ := HA.out j (by omega)
        cases e
        obtain ⟨T, hT⟩ : ∃ T, T = (vs[j + 1]).1 := ⟨_, rfl⟩
        obtain ⟨T2, hT2⟩ : ∃ T, T = (vs[j]).1 := ⟨_, rfl⟩
        rw [← hT] at d0 g1 g2 g3 g4
        rw [← hT2] at g4 d2
        have b1 : decide (T < 1) = false := by simp; omega
        have b2 : decide (1125899906842624 < T) = false := by simp; omega
        have b3 : decide (T ≤ T2) = false := by simp; omega
        have b4 : decide (T ≤ m) = false := by simp; omega
        clear hT hT2 g1 g2 g3 g4 d1
        go_upto_region 9 with fail
        go_quiet ((go_at_call 20; exact quiet_ce (HM.out _)))
        go_wp2
        go_roundw
        case rel => exact ⟨j + 2, by omega, by go_num, _, rfl⟩
        case measure => simp [intOf]; omega
    · obtain rfl : k = n := by omega
      obtain ⟨x1, x2⟩ := x0
      have y0 : w5.cell? ⟨w3.heap.size, 0, none⟩ = some (.int .i64 x1) := X5.cell 0 _ rfl
      have y1 : w5.cell? ⟨w3.heap.size, 1, none⟩ = some (.int .i64 x2) := X5.cell 1 _ rfl
      clear X5 HM
      by_cases he : e0 = 0
      · obtain ⟨cc, hcc2, hcnt, hv, hle, hmax⟩ := ver_at (m := m) (a := at_) (by rw [← HE0.out]; exact he) hr
        have hb1 : (e0 == 0) = true := by simpa using he
        have hb2 : (e0 != 0) = false := by simpa using he
        have hxx := HX0.out.trans hv
        have HV := Lib.hid hxx
        have hle2 : x1 ≤ at_ := by have := congrArg Prod.fst hxx; simp only at this; omega
        have HCNT := Lib.hid hcnt
        have hccn : cc < k := by rw [HN.out]; exact hcc2
        clear he hcnt hv hxx hle hmax hlt
        go_wp2
        go_loopw [10, 11] (fun f i wr => ∃ j : Nat, j ≤ k ∧ f = .bool (decide (cc < j)) ∧ i = .int .i64 j ∧ ∃ q, wr = w5.drewN q) (fun _ i _ => k - (intOf i).toNat)
        case atStart => exact ⟨0, Nat.zero_le _, rfl, rfl, q, rfl⟩
        case round =>
          obtain ⟨j, hj, rfl, rfl, q2, rfl⟩ := hrel
          by_cases hlt : j < k
          · have hjv : j < vs.length := by rw [← HN.out]; exact hlt
            obtain ⟨ad, rfl, d0, d1⟩ := HA.out j hjv
            have hiff := rises_cnt hr at_ j hjv
            rw [HCNT.out] at hiff
            have hxc : x1 = (vs[cc]'(by rw [← HN.out]; exact hccn)).1 ∧ x2 = (vs[cc]'(by rw [← HN.out]; exact hccn)).2 := by
              have := HV.out
              exact ⟨congrArg Prod.fst this, congrArg Prod.snd this⟩
            rcases Nat.lt_trichotomy j cc with h1 | h1 | h1
            · have hltT := hr.lt j cc h1 (by rw [← HN.out]; exact hccn)
              rw [← hxc.1] at hltT
              obtain ⟨T, hT⟩ : ∃ T, T = (vs[j]).1 := ⟨_, rfl⟩
              obtain ⟨V, hV⟩ : ∃ V, V = (vs[j]).2 := ⟨_, rfl⟩
              rw [← hT] at d0 hltT hiff
              rw [← hV] at d1
              have a1 : decide (cc < j) = false := by simp; omega
              have a2 : (T == x1) = false := by simp; omega
              have a3 : decide (x1 < T) = false := by simp; omega
              clear hT hV hiff hxc hltT
              rw [a1]
              go_upto_region 17 with fail
              go_quiet (fail)
              go_upto_region 18 with fail
              go_quiet (fail)
              go_wp2
              go_roundw
              case rel => exact ⟨j + 1, by omega, by rw [show decide (cc < j + 1) = false by simp; omega], by go_num, _, rfl⟩
              case measure => simp [intOf]; omega
            · subst h1
              rw [← hxc.1] at d0
              rw [← hxc.2] at d1
              have a1 : decide (j < j) = false := by simp
              have a3 : decide (x1 < x1) = false := by simp
              clear hiff hxc
              rw [a1]
              clear a1
              go_upto_region 17 with fail
              go_quiet (fail)
              go_upto_region 18 with fail
              go_quiet (fail)
              go_wp2
              go_roundw
              case rel => exact ⟨j + 1, by omega, by rw [show decide (j < j + 1) = true by simp], by go_num, _, rfl⟩
              case measure => simp [intOf]; omega
            · have hltT := hr.lt cc j h1 hjv
              rw [← hxc.1] at hltT
              obtain ⟨T, hT⟩ : ∃ T, T = (vs[j]).1 := ⟨_, rfl⟩
              rw [← hT] at d0 hltT hiff
              have a1 : decide (cc < j) = true := by simpa using h1
              have a3 : decide (x1 < T) = true := by simpa using hltT
              have a4 : decide (T ≤ at_) = false := by
                have h2 : ¬ j < cc + 1 := by omega
                have h3 := fun e => h2 (hiff.2 e)
                simp; omega
              clear hT hiff hxc hltT d1
              rw [a1]
              go_upto_region 17 with fail
              go_quiet (fail)
              go_upto_region 18 with fail
              go_quiet (fail)
              go_wp2
              go_roundw
              case rel => exact ⟨j + 1, by omega, by rw [show decide (cc < j + 1) = true by simp; omega], by go_num, _, rfl⟩
              case measure => simp [intOf]; omega
          · obtain rfl : j = k := by omega
            have a1 : decide (cc < j) = true := by simpa using hccn
            have a5 : decide (x1 ≤ at_) = true := by simpa using hle2
            rw [a1]
            clear HA
            go_wp2
            go_ret
            exact ⟨rfl, below_drewN B5 _⟩
      · obtain ⟨hx, hlt0⟩ := ver_none (m := m) (a := at_) (by rw [← HE0.out]; exact he) hr
        have hxx := HX0.out.trans hx
        simp only [Prod.mk.injEq] at hxx
        obtain ⟨rfl, rfl⟩ := hxx
        have hb1 : (e0 == 0) = false := by simpa using he
        have hb2 : (e0 != 0) = true := by simpa using he
        rw [← HE0.out] at hlt0
        have HL := Lib.hid hlt0
        clear hlt0 hx
        by_cases h114 : e0 = 114
        · have hb3 : (e0 != 114) = false := by simpa using h114
          have hb4 : (e0 == 114) = true := by simpa using h114
          rcases Nat.eq_zero_or_pos k with hk0 | hk0
          · have hb5 : ((k : Int) == 0) = true := by simp; omega
            clear he h114 hk0 hlt
            go_wp2
            go_ret
            exact ⟨rfl, below_drewN B5 _⟩
          · have hb5 : ((k : Int) == 0) = false := by simp; omega
            obtain ⟨ad, rfl, d0, _⟩ := HA.out 0 (by rw [← HN.out]; exact hk0)
            rw [Nat.zero_mul, add_zero] at d0
            have hv := HL.out h114 (by rw [← HN.out]; exact hk0)
            obtain ⟨T, hT⟩ : ∃ T, T = (vs[0]'(by rw [← HN.out]; exact hk0)).1 := ⟨_, rfl⟩
            rw [← hT] at hv d0
            have hb6 : decide (at_ < T) = true := by simpa using hv
            clear he h114 hlt hv hT
            go_wp2
            go_ret
            exact ⟨rfl, below_drewN B5 _⟩
        · have hb3 : (e0 != 114) = true := by simpa using h114
          have hb4 : (e0 == 114) = false := by simpa using h114
          clear he h114 hlt
          go_wp2
          go_ret
          exact ⟨rfl, below_drewN B5 _⟩
end Go.Proofs.Ytpacbbnnmopkjaa
