/- The walk of moietyref11.Prune: the mark is taken. -/
import Derived.Test.YtpacbbnnmopkjaaRc4
set_option linter.unusedVariables false
set_option linter.unusedSimpArgs false
namespace Go.Proofs.Ytpacbbnnmopkjaa
open Go.RowKit

set_option maxHeartbeats 1000000 in
set_option maxRecDepth 100000 in
theorem rprune_ok (A : Option Addr) (n c : Nat) (vs : List (Int × Int)) (m t : Int) (w : World) (hn : n = vs.length) (hA : Cells w A (vcs vs)) (hr : Rises vs) (hs : vs.length ≤ 10000) (he : pruneErr t = 0) :
    Calls Try.prog 47 #[.agg #[.slice A n c, .int .i64 m], .int .i64 t] w fun e w' => ∃ A' c', e = .returned (.tuple #[.agg #[.slice A' (vs.drop (cnt vs (max m t) - 1)).length c', .int .i64 (max m t)], .int .i64 0]) ∧ (vs.drop (cnt vs (max m t) - 1)).length ≤ c' ∧ Cells w' A' (vcs (vs.drop (cnt vs (max m t) - 1))) ∧ Below w.heap.size w w' ∧ ∀ ad, A' = some ad → A = some ad ∨ w.heap.size ≤ ad.block ∧ ad.block < w'.heap.size := by
  subst hn
  unfold pruneErr at he
  by_cases hat : t < 0 ∨ 1125899906842624 < t
  · rw [if_pos hat] at he; cases he
  have h2 : ¬ t < 0 := by omega
  have h3 : ¬ 1125899906842624 < t := by omega
  clear he hat
  obtain ⟨M, hM⟩ : ∃ M, M = max m t := ⟨_, rfl⟩
  rw [← hM]
  obtain ⟨W0, hW0⟩ : ∃ W0, W0 = ((w.alloc (.cells #[.slice A vs.length c, .int .i64 M] 27)).alloc (.cells #[.slice none 0 0, .int .i64 0] 27)).alloc (.cells #[] 34) := ⟨_, rfl⟩
  have b0 : Below w.heap.size w W0 := by rw [hW0]; exact (((Below.refl _ _).alloc (Nat.le_refl _) _).alloc (by simp) _).alloc (by simp; omega) _
  have HW0 := Lib.hid hW0
  clear hW0
  have hB := (((Blk.new w 27 #[.slice A vs.length c, .int .i64 M]).below ((Below.refl _ _).alloc (Nat.le_refl _) (.cells #[.slice none 0 0, .int .i64 0] 27))).below ((Below.refl _ _).alloc (Nat.le_refl _) (.cells #[] 34)))
  rw [← HW0.out] at hB
  have hB6 := (Blk.new (w.alloc (.cells #[.slice A vs.length c, .int .i64 M] 27)) 27 #[.slice none 0 0, .int .i64 0]).below ((Below.refl _ _).alloc (Nat.le_refl _) (.cells #[] 34))
  rw [← HW0.out, World.size_alloc] at hB6
  have HBX := Lib.hid hB
  have HB6 := Lib.hid hB6
  have P0 := Lib.hid (hB.cell 0 _ rfl)
  have P1 := Lib.hid (hB.cell 1 _ rfl)
  have hrow0 : Row W0 (w.heap.size + 2) 34 2 (.slice (some ⟨w.heap.size + 1 + 1, 0, none⟩) 0 0) 0 [] := by
    rw [HW0.out]
    have := row_new ((w.alloc (.cells #[.slice A vs.length c, .int .i64 M] 27)).alloc (.cells #[.slice none 0 0, .int .i64 0] 27)) (w.heap.size + 2) 34 2 (by simp)
    simpa only [World.size_alloc] using this
  have hwl2 : w.heap.size + 2 ≤ W0.heap.size := by rw [HW0.out]; simp
  obtain ⟨d, hd⟩ : ∃ d, d = cnt vs M - 1 := ⟨_, rfl⟩
  have HD := Lib.hid hd
  rw [← hd]
  clear hd hB hB6
  by_cases hmt : m < t
  · obtain rfl : M = t := by omega
    clear hM
    go_enter Try.func47, Try.ntmps47
    go_wp2
    rw [← HW0.out]
    go_loopw [6, 7] (fun l i wr => ∃ k : Nat, k ≤ vs.length ∧ i = .int .i64 k ∧ Row wr (w.heap.size + 2) 34 2 l ((vs.take k).drop d).length (vcs ((vs.take k).drop d)) ∧ Below (w.heap.size + 2) W0 wr) (fun _ i _ => vs.length - (intOf i).toNat)
    case atStart => exact ⟨0, Nat.zero_le _, rfl, by simpa [vcs] using hrow0, Below.refl _ _⟩
    case round =>
      obtain ⟨k, hk, rfl, hrow, hbl⟩ := hrel
      have hkl0 : ((vs.take k).drop d).length ≤ vs.length := by simp; omega
      obtain ⟨A2, c2, rfl, _, _, _, _⟩ := hrow.cells (by rw [vcs_length]; omega)
      have p0 : wr.cell? ⟨w.heap.size, 0, none⟩ = some (.slice A vs.length c) := (hbl.cell (show w.heap.size < w.heap.size + 2 by omega)).trans P0.out
      have p1 : wr.cell? ⟨w.heap.size, 1, none⟩ = some (.int .i64 M) := (hbl.cell (show w.heap.size < w.heap.size + 2 by omega)).trans P1.out
      have hA2 : Cells wr A (vcs vs) := hA.below (b0.trans (hbl.mono (by omega)))
      by_cases hlt : k < vs.length
      · obtain ⟨ad, rfl, d0, d1⟩ := hA2.ver k hlt
        obtain ⟨T, hT⟩ : ∃ T, T = (vs[k]).1 := ⟨_, rfl⟩
        obtain ⟨V, hV⟩ : ∃ V, V = (vs[k]).2 := ⟨_, rfl⟩
        rw [← hT] at d0
        rw [← hV] at d1
        by_cases hl1 : k + 1 = vs.length
        · have hb1 : (((k : Int) + 1) == (vs.length : Int)) = true := by simp; omega
          have hkeep := (keep_iff hr M hlt).1 (.inl hl1)
          have hky := kept_yes vs d k hlt (by rw [HD.out]; exact hkeep)
          have hkl : ((vs.take (k + 1)).drop d).length = ((vs.take k).drop d).length + 1 := by rw [hky]; simp
          have HKY := Lib.hid hky
          have HKL := Lib.hid hkl
          have HNW := Lib.hid (Nat.le_trans hwl2 hbl.size)
          clear hky hkl hkeep
          clear hl1
          go_upto_region 9 with fail
          go_quiet (fail)
          generalize hwd : wr.drewN nq = wd
          have hrw : Row wd (w.heap.size + 2) 34 2 (.slice A2 ((vs.take k).drop d).length c2) ((vs.take k).drop d).length (vcs ((vs.take k).drop d)) := by rw [← hwd]; exact hrow.below (below_drewN (Below.refl _ _) nq)
          have bwd : Below (w.heap.size + 2) W0 wd := by rw [← hwd]; exact below_drewN hbl nq
          have s0 : wd.cell? ⟨w.heap.size, 0, none⟩ = some (.slice (some ad) vs.length c) := by rw [← hwd]; exact p0
          have s1 : wd.cell? (ad.add (k * 2)) = some (.int .i64 T) := by rw [← hwd]; exact d0
          have s2 : wd.cell? ⟨(ad.add (k * 2)).block, (ad.add (k * 2)).off + 1, none⟩ = some (.int .i64 V) := by rw [← hwd]; exact d1
          have hlx : ((vs.take k).drop d).length ≤ 10000 := Nat.le_trans hkl0 hs
          have HX := Lib.hid (show [Value.int IntKind.i64 T, Value.int IntKind.i64 V] = vcs [vs[k]] by rw [hT, hV]; rfl)
          obtain ⟨xs, hxs⟩ : ∃ xs, xs = (vs.take k).drop d := ⟨_, rfl⟩
          rw [← hxs] at hrw hlx HKY HKL ⊢
          have BW := Lib.hid bwd
          have HNW2 := Lib.hid (Nat.le_trans hwl2 bwd.size)
          clear hwd bwd hrow p0 p1 d0 d1 hA2 hT hV hbl hxs hkl0
          go_wp2_with (with_reducible refine halt_dst 54 ?_)
          refine wpList_append_lit rfl (.tmp 47) (.tmp 53) 25 rfl (w.heap.size + 2) 34 (.agg #[.int .i64 0, .int .i64 0]) 2 16 Try.underlying25 Try.info34 rfl (by decide) (.slice A2 xs.length c2) xs.length (vcs xs) rfl hrw 1 1 #[.int .i64 T, .int .i64 V] rfl rfl (by intro u hu; simp at hu; rcases hu with rfl | rfl <;> rfl) (by simp only [maxLen]; omega) (by omega) HNW2.out (by simp) ?_
          intro v5 w5 r5 g5 _
          have r6 : Row w5 (w.heap.size + 2) 34 2 v5 ((vs.take (k + 1)).drop d).length (vcs ((vs.take (k + 1)).drop d)) := by
            rw [HKL.out, HKY.out, vcs_append, ← HX.out]; exact r5
          have b6 : Below (w.heap.size + 2) W0 w5 := BW.out.grown g5 HNW2.out (fun j hj => (hrw.lt j hj).1)
          have hl5 := r5.1
          obtain ⟨A5, c5, rfl, _, _, _, _⟩ := r5.cells (by rw [hl5]; omega)
          have R6 := Lib.hid r6
          have B6 := Lib.hid b6
          clear r5 g5 r6 b6 hl5 hrw s0 s1 s2
          go_wp2
          go_roundw
          case rel => exact ⟨k + 1, by omega, by go_num, R6.out, B6.out⟩
          case measure => simp [intOf]; omega
        · have hk1 : k + 1 < vs.length := by omega
          have hb1 : (((k : Int) + 1) == (vs.length : Int)) = false := by simp; omega
          obtain ⟨ad', e, g0, _⟩ := hA2.ver (k + 1) hk1
          cases e
          obtain ⟨T2, hT2⟩ : ∃ T, T = (vs[k + 1]).1 := ⟨_, rfl⟩
          rw [← hT2] at g0
          by_cases hgt : M < T2
          · have hb2 : decide (M < T2) = true := by simpa using hgt
            have hkeep := (keep_iff hr M hlt).1 (.inr ⟨hk1, by rw [← hT2]; exact hgt⟩)
            have hky := kept_yes vs d k hlt (by rw [HD.out]; exact hkeep)
            have hkl : ((vs.take (k + 1)).drop d).length = ((vs.take k).drop d).length + 1 := by rw [hky]; simp
            have HKY := Lib.hid hky
            have HKL := Lib.hid hkl
            have HNW := Lib.hid (Nat.le_trans hwl2 hbl.size)
            clear hky hkl hkeep
            clear hgt hT2
            go_upto_region 9 with fail
            go_quiet (fail)
            generalize hwd : wr.drewN nq = wd
            have hrw : Row wd (w.heap.size + 2) 34 2 (.slice A2 ((vs.take k).drop d).length c2) ((vs.take k).drop d).length (vcs ((vs.take k).drop d)) := by rw [← hwd]; exact hrow.below (below_drewN (Below.refl _ _) nq)
            have bwd : Below (w.heap.size + 2) W0 wd := by rw [← hwd]; exact below_drewN hbl nq
            have s0 : wd.cell? ⟨w.heap.size, 0, none⟩ = some (.slice (some ad) vs.length c) := by rw [← hwd]; exact p0
            have s1 : wd.cell? (ad.add (k * 2)) = some (.int .i64 T) := by rw [← hwd]; exact d0
            have s2 : wd.cell? ⟨(ad.add (k * 2)).block, (ad.add (k * 2)).off + 1, none⟩ = some (.int .i64 V) := by rw [← hwd]; exact d1
            have hlx : ((vs.take k).drop d).length ≤ 10000 := Nat.le_trans hkl0 hs
            have HX := Lib.hid (show [Value.int IntKind.i64 T, Value.int IntKind.i64 V] = vcs [vs[k]] by rw [hT, hV]; rfl)
            obtain ⟨xs, hxs⟩ : ∃ xs, xs = (vs.take k).drop d := ⟨_, rfl⟩
            rw [← hxs] at hrw hlx HKY HKL ⊢
            have BW := Lib.hid bwd
            have HNW2 := Lib.hid (Nat.le_trans hwl2 bwd.size)
            clear hwd bwd hrow p0 p1 d0 d1 hA2 hT hV hbl hxs hkl0
            go_wp2_with (with_reducible refine halt_dst 54 ?_)
            refine wpList_append_lit rfl (.tmp 47) (.tmp 53) 25 rfl (w.heap.size + 2) 34 (.agg #[.int .i64 0, .int .i64 0]) 2 16 Try.underlying25 Try.info34 rfl (by decide) (.slice A2 xs.length c2) xs.length (vcs xs) rfl hrw 1 1 #[.int .i64 T, .int .i64 V] rfl rfl (by intro u hu; simp at hu; rcases hu with rfl | rfl <;> rfl) (by simp only [maxLen]; omega) (by omega) HNW2.out (by simp) ?_
            intro v5 w5 r5 g5 _
            have r6 : Row w5 (w.heap.size + 2) 34 2 v5 ((vs.take (k + 1)).drop d).length (vcs ((vs.take (k + 1)).drop d)) := by
              rw [HKL.out, HKY.out, vcs_append, ← HX.out]; exact r5
            have b6 : Below (w.heap.size + 2) W0 w5 := BW.out.grown g5 HNW2.out (fun j hj => (hrw.lt j hj).1)
            have hl5 := r5.1
            obtain ⟨A5, c5, rfl, _, _, _, _⟩ := r5.cells (by rw [hl5]; omega)
            have R6 := Lib.hid r6
            have B6 := Lib.hid b6
            clear r5 g5 r6 b6 hl5 hrw s0 s1 s2
            go_wp2
            go_roundw
            case rel => exact ⟨k + 1, by omega, by go_num, R6.out, B6.out⟩
            case measure => simp [intOf]; omega
          · have hb2 : decide (M < T2) = false := by simpa using hgt
            have hno : ¬ cnt vs M - 1 ≤ k := fun e => by
              rcases (keep_iff hr M hlt).2 e with e | ⟨_, e⟩
              · exact hl1 e
              · rw [← hT2] at e; exact hgt e
            have hkn := kept_no vs d k (by rw [HD.out]; omega)
            have HKN := Lib.hid hkn
            have R6 := Lib.hid hrow
            have B6 := Lib.hid hbl
            clear hkn hno hgt hT2 hT hV hrow hbl d1 d0
            go_upto_region 9 with fail
            go_quiet (fail)
            go_wp2
            go_roundw
            case rel => exact ⟨k + 1, by omega, by go_num, by rw [HKN.out]; exact R6.out.below (below_drewN (Below.refl _ _) nq), below_drewN B6.out nq⟩
            case measure => simp [intOf]; omega
      · obtain rfl : k = vs.length := by omega
        rw [List.take_of_length_le (Nat.le_refl _)] at hrow hkl0 ⊢
        obtain ⟨xs, hxs⟩ : ∃ xs, xs = vs.drop d := ⟨_, rfl⟩
        have HXS := Lib.hid hxs
        rw [← hxs] at hrow hkl0 ⊢
        obtain ⟨A3, c3, e3, hc3, _, hA3, hb3⟩ := hrow.cells (by rw [vcs_length]; omega)
        simp only [Value.slice.injEq, true_and] at e3
        obtain ⟨rfl, rfl⟩ := e3
        have D : Blk wr w.heap.size 27 #[.slice A vs.length c, .int .i64 M] := HBX.out.same (hbl.block _ (by omega))
        have D6 : Blk wr (w.heap.size + 1) 27 #[.slice none 0 0, .int .i64 0] := HB6.out.same (hbl.block _ (by omega))
        have u1 := D.free 0 none
        have E4 : Blk (wr.setCell ⟨w.heap.size, 0, none⟩ (.slice A2 xs.length c2)) w.heap.size 27 #[.slice A2 xs.length c2, .int .i64 M] := by simpa using D.set 0 (.slice A2 xs.length c2)
        have E6 : Blk (wr.setCell ⟨w.heap.size, 0, none⟩ (.slice A2 xs.length c2)) (w.heap.size + 1) 27 #[.slice none 0 0, .int .i64 0] := D6.kept (set_grown wr ⟨w.heap.size, 0, none⟩ _) (by simp)
        have e0 : (wr.setCell ⟨w.heap.size, 0, none⟩ (.slice A2 xs.length c2)).cell? ⟨w.heap.size, 0, none⟩ = some (.slice A2 xs.length c2) := E4.cell 0 _ rfl
        have e1 : (wr.setCell ⟨w.heap.size, 0, none⟩ (.slice A2 xs.length c2)).cell? ⟨w.heap.size, 1, none⟩ = some (.int .i64 M) := E4.cell 1 _ rfl
        have e2 : (wr.setCell ⟨w.heap.size, 0, none⟩ (.slice A2 xs.length c2)).cell? ⟨w.heap.size + 1, 0, none⟩ = some (.slice none 0 0) := E6.cell 0 _ rfl
        have e3 : (wr.setCell ⟨w.heap.size, 0, none⟩ (.slice A2 xs.length c2)).cell? ⟨w.heap.size + 1, 1, none⟩ = some (.int .i64 0) := E6.cell 1 _ rfl
        have e4 := E6.free 0 none
        have e5 := E6.free 1 none
        have E7 : Blk (((wr.setCell ⟨w.heap.size, 0, none⟩ (.slice A2 xs.length c2)).setCell ⟨w.heap.size + 1, 0, none⟩ (.slice A2 xs.length c2)).setCell ⟨w.heap.size + 1, 1, none⟩ (.int .i64 M)) (w.heap.size + 1) 27 #[.slice A2 xs.length c2, .int .i64 M] := by
          simpa using (E6.set 0 (.slice A2 xs.length c2)).set 1 (.int .i64 M)
        have hA4 := ((hA3.grown (set_grown wr ⟨w.heap.size, 0, none⟩ (.slice A2 xs.length c2)) (.inr (fun ad e e2 => by have := (hb3 ad e).1; simp at e2; omega))).grown (set_grown _ ⟨w.heap.size + 1, 0, none⟩ (.slice A2 xs.length c2)) (.inr (fun ad e e2 => by have := (hb3 ad e).1; simp at e2; omega))).grown (set_grown _ ⟨w.heap.size + 1, 1, none⟩ (.int .i64 M)) (.inr (fun ad e e2 => by have := (hb3 ad e).1; simp at e2; omega))
        have BF : Below w.heap.size w (((wr.setCell ⟨w.heap.size, 0, none⟩ (.slice A2 xs.length c2)).setCell ⟨w.heap.size + 1, 0, none⟩ (.slice A2 xs.length c2)).setCell ⟨w.heap.size + 1, 1, none⟩ (.int .i64 M)) :=
          (((b0.trans (hbl.mono (by omega))).setCell (p := ⟨w.heap.size, 0, none⟩) (Nat.le_refl _) _).setCell (p := ⟨w.heap.size + 1, 0, none⟩) (by show w.heap.size ≤ w.heap.size + 1; omega) _).setCell (p := ⟨w.heap.size + 1, 1, none⟩) (by show w.heap.size ≤ w.heap.size + 1; omega) _
        have HOUT := Lib.hid (show ∀ ad, A2 = some ad → A = some ad ∨ w.heap.size ≤ ad.block ∧ ad.block < wr.heap.size from fun ad e => .inr (by have := hb3 ad e; omega))
        have HE7 := Lib.hid E7
        have HA4 := Lib.hid hA4
        have HBF := Lib.hid BF
        clear E7 hA4 BF E4 E6 D D6 hA3 hb3 hrow hbl hA2 hxs hlt P1 P0
        go_wp2
        try simp only [Exit.inBlock, Exit.then]
        refine bodyPost_ret (results_two rfl rfl (HE7.out.cell 0 _ rfl) (HE7.out.cell 1 _ rfl)) rfl ?_
        rw [← HXS.out]
        exact ⟨A2, c2, rfl, hc3, HA4.out, HBF.out, fun ad e => (HOUT.out ad e).imp id (fun h => ⟨h.1, by simpa [World.setCell] using h.2⟩)⟩
  · obtain rfl : M = m := by omega
    clear hM
    go_enter Try.func47, Try.ntmps47
    go_wp2
    rw [← HW0.out]
    go_loopw [6, 7] (fun l i wr => ∃ k : Nat, k ≤ vs.length ∧ i = .int .i64 k ∧ Row wr (w.heap.size + 2) 34 2 l ((vs.take k).drop d).length (vcs ((vs.take k).drop d)) ∧ Below (w.heap.size + 2) W0 wr) (fun _ i _ => vs.length - (intOf i).toNat)
    case atStart => exact ⟨0, Nat.zero_le _, rfl, by simpa [vcs] using hrow0, Below.refl _ _⟩
    case round =>
      obtain ⟨k, hk, rfl, hrow, hbl⟩ := hrel
      have hkl0 : ((vs.take k).drop d).length ≤ vs.length := by simp; omega
      obtain ⟨A2, c2, rfl, _, _, _, _⟩ := hrow.cells (by rw [vcs_length]; omega)
      have p0 : wr.cell? ⟨w.heap.size, 0, none⟩ = some (.slice A vs.length c) := (hbl.cell (show w.heap.size < w.heap.size + 2 by omega)).trans P0.out
      have p1 : wr.cell? ⟨w.heap.size, 1, none⟩ = some (.int .i64 M) := (hbl.cell (show w.heap.size < w.heap.size + 2 by omega)).trans P1.out
      have hA2 : Cells wr A (vcs vs) := hA.below (b0.trans (hbl.mono (by omega)))
      by_cases hlt : k < vs.length
      · obtain ⟨ad, rfl, d0, d1⟩ := hA2.ver k hlt
        obtain ⟨T, hT⟩ : ∃ T, T = (vs[k]).1 := ⟨_, rfl⟩
        obtain ⟨V, hV⟩ : ∃ V, V = (vs[k]).2 := ⟨_, rfl⟩
        rw [← hT] at d0
        rw [← hV] at d1
        by_cases hl1 : k + 1 = vs.length
        · have hb1 : (((k : Int) + 1) == (vs.length : Int)) = true := by simp; omega
          have hkeep := (keep_iff hr M hlt).1 (.inl hl1)
          have hky := kept_yes vs d k hlt (by rw [HD.out]; exact hkeep)
          have hkl : ((vs.take (k + 1)).drop d).length = ((vs.take k).drop d).length + 1 := by rw [hky]; simp
          have HKY := Lib.hid hky
          have HKL := Lib.hid hkl
          have HNW := Lib.hid (Nat.le_trans hwl2 hbl.size)
          clear hky hkl hkeep
          clear hl1
          go_upto_region 9 with fail
          go_quiet (fail)
          generalize hwd : wr.drewN nq = wd
          have hrw : Row wd (w.heap.size + 2) 34 2 (.slice A2 ((vs.take k).drop d).length c2) ((vs.take k).drop d).length (vcs ((vs.take k).drop d)) := by rw [← hwd]; exact hrow.below (below_drewN (Below.refl _ _) nq)
          have bwd : Below (w.heap.size + 2) W0 wd := by rw [← hwd]; exact below_drewN hbl nq
          have s0 : wd.cell? ⟨w.heap.size, 0, none⟩ = some (.slice (some ad) vs.length c) := by rw [← hwd]; exact p0
          have s1 : wd.cell? (ad.add (k * 2)) = some (.int .i64 T) := by rw [← hwd]; exact d0
          have s2 : wd.cell? ⟨(ad.add (k * 2)).block, (ad.add (k * 2)).off + 1, none⟩ = some (.int .i64 V) := by rw [← hwd]; exact d1
          have hlx : ((vs.take k).drop d).length ≤ 10000 := Nat.le_trans hkl0 hs
          have HX := Lib.hid (show [Value.int IntKind.i64 T, Value.int IntKind.i64 V] = vcs [vs[k]] by rw [hT, hV]; rfl)
          obtain ⟨xs, hxs⟩ : ∃ xs, xs = (vs.take k).drop d := ⟨_, rfl⟩
          rw [← hxs] at hrw hlx HKY HKL ⊢
          have BW := Lib.hid bwd
          have HNW2 := Lib.hid (Nat.le_trans hwl2 bwd.size)
          clear hwd bwd hrow p0 p1 d0 d1 hA2 hT hV hbl hxs hkl0
          go_wp2_with (with_reducible refine halt_dst 54 ?_)
          refine wpList_append_lit rfl (.tmp 47) (.tmp 53) 25 rfl (w.heap.size + 2) 34 (.agg #[.int .i64 0, .int .i64 0]) 2 16 Try.underlying25 Try.info34 rfl (by decide) (.slice A2 xs.length c2) xs.length (vcs xs) rfl hrw 1 1 #[.int .i64 T, .int .i64 V] rfl rfl (by intro u hu; simp at hu; rcases hu with rfl | rfl <;> rfl) (by simp only [maxLen]; omega) (by omega) HNW2.out (by simp) ?_
          intro v5 w5 r5 g5 _
          have r6 : Row w5 (w.heap.size + 2) 34 2 v5 ((vs.take (k + 1)).drop d).length (vcs ((vs.take (k + 1)).drop d)) := by
            rw [HKL.out, HKY.out, vcs_append, ← HX.out]; exact r5
          have b6 : Below (w.heap.size + 2) W0 w5 := BW.out.grown g5 HNW2.out (fun j hj => (hrw.lt j hj).1)
          have hl5 := r5.1
          obtain ⟨A5, c5, rfl, _, _, _, _⟩ := r5.cells (by rw [hl5]; omega)
          have R6 := Lib.hid r6
          have B6 := Lib.hid b6
          clear r5 g5 r6 b6 hl5 hrw s0 s1 s2
          go_wp2
          go_roundw
          case rel => exact ⟨k + 1, by omega, by go_num, R6.out, B6.out⟩
          case measure => simp [intOf]; omega
        · have hk1 : k + 1 < vs.length := by omega
          have hb1 : (((k : Int) + 1) == (vs.length : Int)) = false := by simp; omega
          obtain ⟨ad', e, g0, _⟩ := hA2.ver (k + 1) hk1
          cases e
          obtain ⟨T2, hT2⟩ : ∃ T, T = (vs[k + 1]).1 := ⟨_, rfl⟩
          rw [← hT2] at g0
          by_cases hgt : M < T2
          · have hb2 : decide (M < T2) = true := by simpa using hgt
            have hkeep := (keep_iff hr M hlt).1 (.inr ⟨hk1, by rw [← hT2]; exact hgt⟩)
            have hky := kept_yes vs d k hlt (by rw [HD.out]; exact hkeep)
            have hkl : ((vs.take (k + 1)).drop d).length = ((vs.take k).drop d).length + 1 := by rw [hky]; simp
            have HKY := Lib.hid hky
            have HKL := Lib.hid hkl
            have HNW := Lib.hid (Nat.le_trans hwl2 hbl.size)
            clear hky hkl hkeep
            clear hgt hT2
            go_upto_region 9 with fail
            go_quiet (fail)
            generalize hwd : wr.drewN nq = wd
            have hrw : Row wd (w.heap.size + 2) 34 2 (.slice A2 ((vs.take k).drop d).length c2) ((vs.take k).drop d).length (vcs ((vs.take k).drop d)) := by rw [← hwd]; exact hrow.below (below_drewN (Below.refl _ _) nq)
            have bwd : Below (w.heap.size + 2) W0 wd := by rw [← hwd]; exact below_drewN hbl nq
            have s0 : wd.cell? ⟨w.heap.size, 0, none⟩ = some (.slice (some ad) vs.length c) := by rw [← hwd]; exact p0
            have s1 : wd.cell? (ad.add (k * 2)) = some (.int .i64 T) := by rw [← hwd]; exact d0
            have s2 : wd.cell? ⟨(ad.add (k * 2)).block, (ad.add (k * 2)).off + 1, none⟩ = some (.int .i64 V) := by rw [← hwd]; exact d1
            have hlx : ((vs.take k).drop d).length ≤ 10000 := Nat.le_trans hkl0 hs
            have HX := Lib.hid (show [Value.int IntKind.i64 T, Value.int IntKind.i64 V] = vcs [vs[k]] by rw [hT, hV]; rfl)
            obtain ⟨xs, hxs⟩ : ∃ xs, xs = (vs.take k).drop d := ⟨_, rfl⟩
            rw [← hxs] at hrw hlx HKY HKL ⊢
            have BW := Lib.hid bwd
            have HNW2 := Lib.hid (Nat.le_trans hwl2 bwd.size)
            clear hwd bwd hrow p0 p1 d0 d1 hA2 hT hV hbl hxs hkl0
            go_wp2_with (with_reducible refine halt_dst 54 ?_)
            refine wpList_append_lit rfl (.tmp 47) (.tmp 53) 25 rfl (w.heap.size + 2) 34 (.agg #[.int .i64 0, .int .i64 0]) 2 16 Try.underlying25 Try.info34 rfl (by decide) (.slice A2 xs.length c2) xs.length (vcs xs) rfl hrw 1 1 #[.int .i64 T, .int .i64 V] rfl rfl (by intro u hu; simp at hu; rcases hu with rfl | rfl <;> rfl) (by simp only [maxLen]; omega) (by omega) HNW2.out (by simp) ?_
            intro v5 w5 r5 g5 _
            have r6 : Row w5 (w.heap.size + 2) 34 2 v5 ((vs.take (k + 1)).drop d).length (vcs ((vs.take (k + 1)).drop d)) := by
              rw [HKL.out, HKY.out, vcs_append, ← HX.out]; exact r5
            have b6 : Below (w.heap.size + 2) W0 w5 := BW.out.grown g5 HNW2.out (fun j hj => (hrw.lt j hj).1)
            have hl5 := r5.1
            obtain ⟨A5, c5, rfl, _, _, _, _⟩ := r5.cells (by rw [hl5]; omega)
            have R6 := Lib.hid r6
            have B6 := Lib.hid b6
            clear r5 g5 r6 b6 hl5 hrw s0 s1 s2
            go_wp2
            go_roundw
            case rel => exact ⟨k + 1, by omega, by go_num, R6.out, B6.out⟩
            case measure => simp [intOf]; omega
          · have hb2 : decide (M < T2) = false := by simpa using hgt
            have hno : ¬ cnt vs M - 1 ≤ k := fun e => by
              rcases (keep_iff hr M hlt).2 e with e | ⟨_, e⟩
              · exact hl1 e
              · rw [← hT2] at e; exact hgt e
            have hkn := kept_no vs d k (by rw [HD.out]; omega)
            have HKN := Lib.hid hkn
            have R6 := Lib.hid hrow
            have B6 := Lib.hid hbl
            clear hkn hno hgt hT2 hT hV hrow hbl d1 d0
            go_upto_region 9 with fail
            go_quiet (fail)
            go_wp2
            go_roundw
            case rel => exact ⟨k + 1, by omega, by go_num, by rw [HKN.out]; exact R6.out.below (below_drewN (Below.refl _ _) nq), below_drewN B6.out nq⟩
            case measure => simp [intOf]; omega
      · obtain rfl : k = vs.length := by omega
        rw [List.take_of_length_le (Nat.le_refl _)] at hrow hkl0 ⊢
        obtain ⟨xs, hxs⟩ : ∃ xs, xs = vs.drop d := ⟨_, rfl⟩
        have HXS := Lib.hid hxs
        rw [← hxs] at hrow hkl0 ⊢
        obtain ⟨A3, c3, e3, hc3, _, hA3, hb3⟩ := hrow.cells (by rw [vcs_length]; omega)
        simp only [Value.slice.injEq, true_and] at e3
        obtain ⟨rfl, rfl⟩ := e3
        have D : Blk wr w.heap.size 27 #[.slice A vs.length c, .int .i64 M] := HBX.out.same (hbl.block _ (by omega))
        have D6 : Blk wr (w.heap.size + 1) 27 #[.slice none 0 0, .int .i64 0] := HB6.out.same (hbl.block _ (by omega))
        have u1 := D.free 0 none
        have E4 : Blk (wr.setCell ⟨w.heap.size, 0, none⟩ (.slice A2 xs.length c2)) w.heap.size 27 #[.slice A2 xs.length c2, .int .i64 M] := by simpa using D.set 0 (.slice A2 xs.length c2)
        have E6 : Blk (wr.setCell ⟨w.heap.size, 0, none⟩ (.slice A2 xs.length c2)) (w.heap.size + 1) 27 #[.slice none 0 0, .int .i64 0] := D6.kept (set_grown wr ⟨w.heap.size, 0, none⟩ _) (by simp)
        have e0 : (wr.setCell ⟨w.heap.size, 0, none⟩ (.slice A2 xs.length c2)).cell? ⟨w.heap.size, 0, none⟩ = some (.slice A2 xs.length c2) := E4.cell 0 _ rfl
        have e1 : (wr.setCell ⟨w.heap.size, 0, none⟩ (.slice A2 xs.length c2)).cell? ⟨w.heap.size, 1, none⟩ = some (.int .i64 M) := E4.cell 1 _ rfl
        have e2 : (wr.setCell ⟨w.heap.size, 0, none⟩ (.slice A2 xs.length c2)).cell? ⟨w.heap.size + 1, 0, none⟩ = some (.slice none 0 0) := E6.cell 0 _ rfl
        have e3 : (wr.setCell ⟨w.heap.size, 0, none⟩ (.slice A2 xs.length c2)).cell? ⟨w.heap.size + 1, 1, none⟩ = some (.int .i64 0) := E6.cell 1 _ rfl
        have e4 := E6.free 0 none
        have e5 := E6.free 1 none
        have E7 : Blk (((wr.setCell ⟨w.heap.size, 0, none⟩ (.slice A2 xs.length c2)).setCell ⟨w.heap.size + 1, 0, none⟩ (.slice A2 xs.length c2)).setCell ⟨w.heap.size + 1, 1, none⟩ (.int .i64 M)) (w.heap.size + 1) 27 #[.slice A2 xs.length c2, .int .i64 M] := by
          simpa using (E6.set 0 (.slice A2 xs.length c2)).set 1 (.int .i64 M)
        have hA4 := ((hA3.grown (set_grown wr ⟨w.heap.size, 0, none⟩ (.slice A2 xs.length c2)) (.inr (fun ad e e2 => by have := (hb3 ad e).1; simp at e2; omega))).grown (set_grown _ ⟨w.heap.size + 1, 0, none⟩ (.slice A2 xs.length c2)) (.inr (fun ad e e2 => by have := (hb3 ad e).1; simp at e2; omega))).grown (set_grown _ ⟨w.heap.size + 1, 1, none⟩ (.int .i64 M)) (.inr (fun ad e e2 => by have := (hb3 ad e).1; simp at e2; omega))
        have BF : Below w.heap.size w (((wr.setCell ⟨w.heap.size, 0, none⟩ (.slice A2 xs.length c2)).setCell ⟨w.heap.size + 1, 0, none⟩ (.slice A2 xs.length c2)).setCell ⟨w.heap.size + 1, 1, none⟩ (.int .i64 M)) :=
          (((b0.trans (hbl.mono (by omega))).setCell (p := ⟨w.heap.size, 0, none⟩) (Nat.le_refl _) _).setCell (p := ⟨w.heap.size + 1, 0, none⟩) (by show w.heap.size ≤ w.heap.size + 1; omega) _).setCell (p := ⟨w.heap.size + 1, 1, none⟩) (by show w.heap.size ≤ w.heap.size + 1; omega) _
        have HOUT := Lib.hid (show ∀ ad, A2 = some ad → A = some ad ∨ w.heap.size ≤ ad.block ∧ ad.block < wr.heap.size from fun ad e => .inr (by have := hb3 ad e; omega))
        have HE7 := Lib.hid E7
        have HA4 := Lib.hid hA4
        have HBF := Lib.hid BF
        clear E7 hA4 BF E4 E6 D D6 hA3 hb3 hrow hbl hA2 hxs hlt P1 P0
        go_wp2
        try simp only [Exit.inBlock, Exit.then]
        refine bodyPost_ret (results_two rfl rfl (HE7.out.cell 0 _ rfl) (HE7.out.cell 1 _ rfl)) rfl ?_
        rw [← HXS.out]
        exact ⟨A2, c2, rfl, hc3, HA4.out, HBF.out, fun ad e => (HOUT.out ad e).imp id (fun h => ⟨h.1, by simpa [World.setCell] using h.2⟩)⟩

theorem rprune_calls (A : Option Addr) (n c : Nat) (vs : List (Int × Int)) (m t : Int) (w : World) (hn : n = vs.length) (hc : n ≤ c) (hA : Cells w A (vcs vs)) (hr : Rises vs) (hs : vs.length ≤ 10000) :
    Calls Try.prog 47 #[.agg #[.slice A n c, .int .i64 m], .int .i64 t] w fun e w' => ∃ A' c', e = .returned (.tuple #[.agg #[.slice A' (pruneVer vs m t).length c', .int .i64 (pruneMark m t)], .int .i64 (pruneErr t)]) ∧ (pruneVer vs m t).length ≤ c' ∧ Cells w' A' (vcs (pruneVer vs m t)) ∧ Below w.heap.size w w' ∧ ∀ ad, A' = some ad → A = some ad ∨ w.heap.size ≤ ad.block ∧ ad.block < w'.heap.size := by
  unfold pruneVer pruneMark
  by_cases he : pruneErr t = 0
  · rw [if_pos he, if_pos he, he]; exact rprune_ok A n c vs m t w hn hA hr hs he
  · rw [if_neg he, if_neg he]
    refine (rprune_err A n c m t w he).mono ?_
    rintro e w' ⟨rfl, b⟩
    exact ⟨A, c, by rw [hn], by rw [← hn]; exact hc, hA.below b, b, fun ad e => .inl e⟩
end Go.Proofs.Ytpacbbnnmopkjaa
