/- The walks of law16's kind and do. -/
import Derived.Test.YtpacbbnnmopkjaaPg4
set_option linter.unusedVariables false
set_option linter.unusedSimpArgs false
namespace Go.Proofs.Ytpacbbnnmopkjaa
open Go.RowKit

def kindOf (s : Sd) : Sd := if s.kind < 0 ∨ 2 < s.kind then { s with kind := 3 } else s
theorem kindOf_range (s : Sd) : 0 ≤ (kindOf s).kind ∧ (kindOf s).kind ≤ 3 := by
  unfold kindOf
  split
  · simp
  · omega
set_option maxHeartbeats 1000000 in
theorem kind_calls (s : Sd) (w : World) : Calls Try.prog 31 #[.agg #[.int .i64 s.kind, .bool s.pays, .bool s.yes, .int .i64 s.t]] w fun e w' => e = .returned (.agg #[.int .i64 (kindOf s).kind, .bool (kindOf s).pays, .bool (kindOf s).yes, .int .i64 (kindOf s).t]) ∧ Below w.heap.size w w' := by
  obtain ⟨k, pays, yes, t⟩ := s
  have HK := Lib.hid (show ∀ k', Blk ((w.alloc (.cells #[.int .i64 k', .bool pays, .bool yes, .int .i64 t] 67)).alloc (.cells #[.int .i64 k', .bool pays, .bool yes, .int .i64 t] 67)) (w.heap.size + 1) 67 #[.int .i64 k', .bool pays, .bool yes, .int .i64 t] ∧ Below w.heap.size w ((w.alloc (.cells #[.int .i64 k', .bool pays, .bool yes, .int .i64 t] 67)).alloc (.cells #[.int .i64 k', .bool pays, .bool yes, .int .i64 t] 67)) from fun k' => by
    refine ⟨?_, ((Below.refl _ _).alloc (Nat.le_refl _) _).alloc (by simp) _⟩
    have := Blk.new (w.alloc (.cells #[.int .i64 k', .bool pays, .bool yes, .int .i64 t] 67)) 67 #[.int .i64 k', .bool pays, .bool yes, .int .i64 t]
    simpa using this)
  unfold kindOf
  simp only
  by_cases h1 : k < 0
  · rw [if_pos (.inl h1)]
    go_enter Try.func31, Try.ntmps31
    go_wp2
    (try simp only [Exit.inBlock, Exit.then])
    refine bodyPost_ret (results_said rfl rfl ((HK.out 3).1.cell 0 _ rfl) ((HK.out 3).1.cell 1 _ rfl) ((HK.out 3).1.cell 2 _ rfl) ((HK.out 3).1.cell 3 _ rfl)) rfl ?_
    exact ⟨rfl, (HK.out 3).2⟩
  · by_cases h2 : 2 < k
    · rw [if_pos (.inr h2)]
      go_enter Try.func31, Try.ntmps31
      go_wp2
      (try simp only [Exit.inBlock, Exit.then])
      refine bodyPost_ret (results_said rfl rfl ((HK.out 3).1.cell 0 _ rfl) ((HK.out 3).1.cell 1 _ rfl) ((HK.out 3).1.cell 2 _ rfl) ((HK.out 3).1.cell 3 _ rfl)) rfl ?_
      exact ⟨rfl, (HK.out 3).2⟩
    · rw [if_neg (by omega)]
      go_enter Try.func31, Try.ntmps31
      go_wp2
      (try simp only [Exit.inBlock, Exit.then])
      refine bodyPost_ret (results_said rfl rfl ((HK.out k).1.cell 0 _ rfl) ((HK.out k).1.cell 1 _ rfl) ((HK.out k).1.cell 2 _ rfl) ((HK.out k).1.cell 3 _ rfl)) rfl ?_
      exact ⟨rfl, (HK.out k).2⟩

set_option maxHeartbeats 1000000 in
theorem do_calls (g : Nat) (x : Tr) (p : PS) (s : Sd) (w : World) (h : IsPledge w g x p) : Calls Try.prog 33 #[.pointer (some ⟨g, 0, Option.none⟩), .agg #[.int .i64 s.kind, .bool s.pays, .bool s.yes, .int .i64 s.t]] w fun e w' => e = .returned (.int .i64 (p.doErr s)) ∧ IsPledge w' g x (p.does s) ∧ Upd (fun k => k = g) w w' := by
  obtain ⟨k, pays, yes, t⟩ := s
  have b1 := pbelow_one w (.cells #[.int .i64 k, .bool pays, .bool yes, .int .i64 t] 67)
  have HP := Lib.hid (h.below b1)
  have HU := Lib.hid (fun W' (hu : Upd (fun k => k = g) (w.alloc (.cells #[.int .i64 k, .bool pays, .bool yes, .int .i64 t] 67)) W') => (Upd.of_below (S := fun k => k = g) b1).trans hu (fun _ _ h => h))
  clear h b1
  unfold PS.doErr PS.does
  simp only
  by_cases k0 : k = 0
  · rw [if_pos k0, if_pos k0]
    have kb : (k == 0) = true := by simpa using k0
    clear k0
    go_enter Try.func33, Try.ntmps33
    go_wp2_with fail
    refine (vote_calls g x p pays yes t _ HP.out).mono ?_
    rintro e w1 ⟨rfl, h1, u1⟩
    have H1 := Lib.hid h1
    have U1 := Lib.hid (HU.out _ u1)
    clear h1 u1
    go_wp2
    go_ret
    exact ⟨rfl, H1.out, U1.out⟩
  · rw [if_neg k0, if_neg k0]
    have kb : (k == 0) = false := by simpa using k0
    clear k0
    by_cases k1 : k = 1
    · rw [if_pos k1, if_pos k1]
      have kb1 : (k == 1) = true := by simpa using k1
      clear k1
      go_enter Try.func33, Try.ntmps33
      go_wp2_with fail
      refine (commit_calls g x p t _ HP.out).mono ?_
      rintro e w1 ⟨rfl, h1, u1⟩
      have H1 := Lib.hid h1
      have U1 := Lib.hid (HU.out _ u1)
      clear h1 u1
      go_wp2
      go_ret
      exact ⟨rfl, H1.out, U1.out⟩
    · rw [if_neg k1, if_neg k1]
      have kb1 : (k == 1) = false := by simpa using k1
      clear k1
      by_cases k2 : k = 2
      · rw [if_pos k2, if_pos k2]
        have kb2 : (k == 2) = true := by simpa using k2
        clear k2
        go_enter Try.func33, Try.ntmps33
        go_wp2_with fail
        refine (abort_calls g x p _ HP.out).mono ?_
        rintro e w1 ⟨rfl, h1, u1⟩
        have H1 := Lib.hid h1
        have U1 := Lib.hid (HU.out _ u1)
        clear h1 u1
        go_wp2
        go_ret
        exact ⟨rfl, H1.out, U1.out⟩
      · rw [if_neg k2, if_neg k2]
        have kb2 : (k == 2) = false := by simpa using k2
        clear k2
        go_enter Try.func33, Try.ntmps33
        go_wp2_with fail
        refine (ack_calls g x p pays _ HP.out).mono ?_
        rintro e w1 ⟨rfl, h1, u1⟩
        have H1 := Lib.hid h1
        have U1 := Lib.hid (HU.out _ u1)
        clear h1 u1
        go_wp2
        go_ret
        exact ⟨rfl, H1.out, U1.out⟩
end Go.Proofs.Ytpacbbnnmopkjaa
