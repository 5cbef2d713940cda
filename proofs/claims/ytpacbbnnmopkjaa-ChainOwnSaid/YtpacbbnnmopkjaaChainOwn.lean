/- ChainOwn: the walk of the law. -/
import Derived.Test.YtpacbbnnmopkjaaCh8
import Derived.Test.YtpacbbnnmopkjaaCh6
set_option linter.unusedVariables false
set_option linter.unusedSimpArgs false
namespace Go.Proofs.Ytpacbbnnmopkjaa
open Go.RowKit

set_option maxHeartbeats 1000000 in
set_option maxRecDepth 100000 in
theorem chainOwn_walk (A0 : Option Addr) (n0 c0 : Nat) (ls : List Op3) (w : World) (w0 : n0 = ls.length ∧ Cells w A0 (ocs ls)) :
    Calls Try.prog 7 #[.slice A0 n0 c0] w fun e w' => e = .returned (.bool true) ∧ Below w.heap.size w w' := by
  obtain ⟨rfl, hc⟩ := w0
  obtain ⟨st, hst⟩ : ∃ st, st = madeOf ls := ⟨_, rfl⟩
  go_enter Try.func7, Try.ntmps7
  go_wp2_with fail
  refine (made_calls A0 _ c0 ls w rfl hc).mono ?_
  rintro e w1 ⟨rfl, h1, hr, B1⟩
  rw [← hst] at h1 hr
  clear hc hst
  obtain ⟨vs, m⟩ := st
  simp only at h1 hr
  have hs := h1.small
  go_wp2_with fail
  refine (awake_calls w1).mono ?_
  rintro e w2 ⟨rfl, b2⟩
  have h2 := h1.below b2
  have B2 := B1.trans (b2.mono B1.size)
  clear h1 b2 B1
  go_wp2_with fail
  refine (list_calls _ _ vs m w2 h2).mono ?_
  rintro e w3 ⟨va, rfl, ra, b3⟩
  obtain ⟨A, ca, rfl, hca, _, _, _⟩ := ra.cells (by rw [vcs_length]; omega)
  have h3 := h2.below b3
  go_wp2_with fail
  refine (list_calls _ _ vs m w3 h3).mono ?_
  rintro e w4 ⟨vb, rfl, rb, b4⟩
  obtain ⟨D, d, rfl, hd, _, hD, hDb⟩ := rb.cells (by rw [vcs_length]; omega)
  have ra4 := ra.below b4
  have b4' : Below w2.heap.size w2 w4 := b3.trans (b4.mono b3.size)
  obtain ⟨row, hrow⟩ : ∃ row, row = (Value.slice A vs.length ca).ownBlock := ⟨_, rfl⟩
  have hrl : ∀ g, row = some g → w2.heap.size ≤ g ∧ g < w3.heap.size := fun g e => by rw [hrow] at e; exact ra.lt g e
  have HRL := Lib.hid hrl
  have HD := Lib.hid (And.intro hD hDb)
  have H2 := Lib.hid h2
  have HB2 := Lib.hid B2
  have HB4 := Lib.hid b4'
  have HROW := Lib.hid hrow
  obtain ⟨n, hn⟩ : ∃ n, n = vs.length := ⟨_, rfl⟩
  have HN := Lib.hid hn
  rw [← hn] at ra4 hca hs hd ⊢
  rw [← hn] at HROW
  clear hrl ra rb hD hDb h2 h3 b3 b4 b4' B2 hrow hn
  go_wp2
  go_loopw [6] (fun i wr => ∃ k : Nat, k ≤ n ∧ i = .int .i64 k ∧ w4.grownBy wr row ∧ ∃ xs, Row wr w2.heap.size 34 2 (.slice A n ca) n xs ∧ ∀ u ∈ xs, u.oneCell' = true) (fun i _ => n - (intOf i).toNat)
  case atStart => exact ⟨0, Nat.zero_le _, rfl, World.grownBy.refl _ _, _, ra4, vcs_one _⟩
  case round =>
    obtain ⟨k, hk, rfl, hg, xs, hra, hx1⟩ := hrel
    clear ra4
    by_cases hlt : k < n
    · obtain ⟨g, cap, cur, e, hg2, hB, hnc, hcm, hcs, ht⟩ := hra.blk (by omega)
      simp only [Value.slice.injEq, true_and] at e
      obtain ⟨rfl, rfl⟩ := e
      have z0 : wr.cell? ⟨g, k * 2, none⟩ = some (cur[k * 2]'(by omega)) := hB.cell _ _ (by simp)
      have z1 : wr.cell? ⟨g, k * 2 + 1, none⟩ = some (cur[k * 2 + 1]'(by omega)) := hB.cell _ _ (by simp)
      have f0 := hB.free (k * 2) none
      have f1 := hB.free (k * 2 + 1) none
      have hB2 := (hB.set (k * 2) (.int .i64 (-1))).set (k * 2 + 1) (.int .i64 0)
      have hg3 : w4.grownBy ((wr.setCell ⟨g, k * 2, none⟩ (.int .i64 (-1))).setCell ⟨g, k * 2 + 1, none⟩ (.int .i64 0)) row := by
        have hrg : row = some g := HROW.out
        subst hrg
        exact grown_trans (grown_trans hg (set_grown wr ⟨g, k * 2, none⟩ _)) (set_grown _ ⟨g, k * 2 + 1, none⟩ _)
      have HB5 := Lib.hid hB2
      have HG3 := Lib.hid hg3
      have HT := Lib.hid ht
      clear hB hB2 hg hg3 hra ht
      go_wp2
      go_roundw
      case rel =>
        refine ⟨k + 1, by omega, by go_num, HG3.out, ((xs.set (k * 2) (.int .i64 (-1))).set (k * 2 + 1) (.int .i64 0)), ⟨?_, .inr ⟨g, ca, _, rfl, hg2, HB5.out, hnc, hcm, by simpa using hcs, ?_⟩⟩, ?_⟩
        · rw [← HT.out]; simp; omega
        · rw [← HT.out]; simp [List.take_set]
        · intro u hu
          rcases List.mem_or_eq_of_mem_set hu with hu | rfl
          · rcases List.mem_or_eq_of_mem_set hu with hu | rfl
            · exact hx1 u hu
            · rfl
          · rfl
      case measure => simp [intOf]; omega
    · go_wp2_with (with_reducible refine halt_dst 32 ?_)
      refine wpList_append_lit rfl (.tmp 29) (.tmp 31) 25 rfl w2.heap.size 34 (.agg #[.int .i64 0, .int .i64 0]) 2 16 Try.underlying25 Try.info34 rfl (by decide) (.slice A n ca) n xs rfl hra 1 1 #[.int .i64 0, .int .i64 0] rfl rfl (by intro u hu; simp at hu; subst hu; rfl) (by simp only [maxLen]; omega) (by omega) (Nat.le_trans HB4.out.size hg.size) (by simp) ?_
      intro v5 w5 r5 g5 _
      have hl5 := r5.1
      obtain ⟨A5, c5, rfl, _, _, _, _⟩ := r5.cells (by rw [hl5]; omega)
      rw [← HROW.out] at g5
      have G5 := grown_trans hg g5
      have hw24 := HB4.out.size
      have B5 : Below w2.heap.size w2 w5 := HB4.out.trans ⟨G5.os, G5.tape, G5.output, G5.size, fun i hi => G5.block i (by omega) (fun e => by have := (HRL.out i e.symm).1; omega)⟩
      have h5 := H2.out.below B5
      have hD5 : Cells w5 D (vcs vs) := HD.out.1.grown G5 (.inr (fun ad e e2 => by have := (HD.out.2 ad e).1; have := (HRL.out _ e2.symm).2; omega))
      have BB := HB2.out.trans (B5.mono HB2.out.size)
      clear hg hra g5 G5 B5 r5 hl5
      go_wp2_with fail
      refine (list_calls _ _ vs m w5 h5).mono ?_
      rintro e w6 ⟨v6, rfl, r6, b6⟩
      obtain ⟨A6, c6, rfl, _, _, hA6, _⟩ := r6.cells (by rw [vcs_length, ← HN.out]; omega)
      have hD6 := hD5.below b6
      have BB6 := BB.trans (b6.mono BB.size)
      clear r6 h5 hD5 b6 BB
      go_wp2_with fail
      refine (same_calls A6 D _ c6 n d vs vs w6 rfl hA6 HN.out hD6).mono ?_
      rintro e w7 ⟨rfl, j, rfl⟩
      rw [show decide (vs = vs) = true by simp]
      go_wp2
      go_ret
      exact ⟨rfl, below_drewN BB6 _⟩
end Go.Proofs.Ytpacbbnnmopkjaa
