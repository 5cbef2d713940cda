/- The walk of moietyref11.Put. -/
import Derived.Test.YtpacbbnnmopkjaaRc2
set_option linter.unusedVariables false
set_option linter.unusedSimpArgs false
namespace Go.Proofs.Ytpacbbnnmopkjaa
open Go.RowKit

theorem results_two {fn : Func} {tmps : Array Value} {W : World} {a u : Tmp} {g : Nat} {y0 y1 : Value} (hres : fn.results = #[.cell a 27, .tmp u]) (ha : tmps.getD a undef = .pointer (some ⟨g, 0, none⟩))
    (c0 : W.cell? ⟨g, 0, none⟩ = some y0) (c1 : W.cell? ⟨g, 1, none⟩ = some y1) :
    (results fn tmps).run Try.prog W = .ok (.tuple #[.agg #[y0, y1], tmps.getD u undef]) W := by
  have ha' : tmps[a]?.getD undef = .pointer (some ⟨g, 0, none⟩) := by simpa using ha
  simp [results, hres, ha', c0, c1, go_sem]
theorem le_last {vs : List (Int × Int)} (hr : Rises vs) {k : Nat} (hk : k < vs.length) : (vs[k]).1 ≤ lastT vs := by
  have h2 : lastT vs = (vs[vs.length - 1]).1 := by unfold lastT; rw [List.getLast?_eq_getElem?, List.getElem?_eq_getElem (by omega)]; rfl
  rcases Nat.lt_or_ge k (vs.length - 1) with h3 | h3
  · have := hr.lt k (vs.length - 1) h3 (by omega); omega
  · have : k = vs.length - 1 := by omega
    subst this; omega

set_option maxHeartbeats 1000000 in
set_option maxRecDepth 100000 in
theorem rput_calls (A : Option Addr) (n c : Nat) (vs : List (Int × Int)) (m t v : Int) (w : World) (hn : n = vs.length) (hc : n ≤ c) (hA : Cells w A (vcs vs)) (hr : Rises vs) (hs : vs.length ≤ 10000) :
    Calls Try.prog 45 #[.agg #[.slice A n c, .int .i64 m], .int .i64 t, .int .i64 v] w fun e w' => ∃ A' c', e = .returned (.tuple #[.agg #[.slice A' (putVer vs m t v).length c', .int .i64 m], .int .i64 (putErr vs m t)]) ∧ (putVer vs m t v).length ≤ c' ∧ Cells w' A' (vcs (putVer vs m t v)) ∧ Below w.heap.size w w' ∧ ∀ ad, A' = some ad → A = some ad ∨ w.heap.size ≤ ad.block ∧ ad.block < w'.heap.size := by
  subst hn
  obtain ⟨W, hW⟩ : ∃ W, W = (w.alloc (.cells #[.slice A vs.length c, .int .i64 m] 27)).alloc (.cells #[.slice A vs.length c, .int .i64 m] 27) := ⟨_, rfl⟩
  have b1 : Below w.heap.size w W := by rw [hW]; exact ((Below.refl _ _).alloc (Nat.le_refl _) _).alloc (by simp) _
  have hA1 := hA.below b1
  have R0 : W.cell? ⟨w.heap.size + 1, 0, none⟩ = some (.slice A vs.length c) := by rw [hW]; simp
  have R1 : W.cell? ⟨w.heap.size + 1, 1, none⟩ = some (.int .i64 m) := by rw [hW]; simp
  by_cases hat : t < 1 ∨ 1125899906842624 < t
  · have hpe : putErr vs m t = 110 := by unfold putErr; rw [if_pos hat]
    have hpv : putVer vs m t v = vs := by unfold putVer; rw [if_neg (by rw [hpe]; decide)]
    rw [hpe, hpv]
    have HW := Lib.hid hW
    clear hW hpe hpv
    rcases (show t < 1 ∨ (¬ t < 1 ∧ 1125899906842624 < t) by omega) with h2 | ⟨h2, h3⟩
    · go_enter Try.func45, Try.ntmps45
      go_wp2
      rw [← HW.out]
      try simp only [Exit.inBlock, Exit.then]
      refine bodyPost_ret (results_two rfl rfl R0 R1) rfl ?_
      exact ⟨A, c, rfl, hc, hA1, b1, fun ad e => .inl e⟩
    · go_enter Try.func45, Try.ntmps45
      go_wp2
      rw [← HW.out]
      try simp only [Exit.inBlock, Exit.then]
      refine bodyPost_ret (results_two rfl rfl R0 R1) rfl ?_
      exact ⟨A, c, rfl, hc, hA1, b1, fun ad e => .inl e⟩
  · have h2 : ¬ t < 1 := by omega
    have h3 : ¬ 1125899906842624 < t := by omega
    obtain ⟨W0, hW0⟩ : ∃ W0, W0 = (w.alloc (.cells #[.slice A vs.length c, .int .i64 m] 27)).alloc (.cells #[.slice none 0 0, .int .i64 0] 27) := ⟨_, rfl⟩
    have b0 : Below w.heap.size w W0 := by rw [hW0]; exact ((Below.refl _ _).alloc (Nat.le_refl _) _).alloc (by simp) _
    have hB : Blk W0 w.heap.size 27 #[.slice A vs.length c, .int .i64 m] := by rw [hW0]; exact (Blk.new w 27 _).below ((Below.refl _ _).alloc (Nat.le_refl _) _)
    have hB6 : Blk W0 (w.heap.size + 1) 27 #[.slice none 0 0, .int .i64 0] := by
      rw [hW0]
      have := Blk.new (w.alloc (.cells #[.slice A vs.length c, .int .i64 m] 27)) 27 #[.slice none 0 0, .int .i64 0]
      simpa only [World.size_alloc] using this
    have hA0 := hA.below b0
    have HA := Lib.hid (fun j (hj : j < vs.length) => hA0.ver j hj)
    have p0 : W0.cell? ⟨w.heap.size, 0, none⟩ = some (.slice A vs.length c) := hB.cell 0 _ rfl
    have p1 : W0.cell? ⟨w.heap.size, 1, none⟩ = some (.int .i64 m) := hB.cell 1 _ rfl
    have q0 : W0.cell? ⟨w.heap.size + 1, 0, none⟩ = some (.slice none 0 0) := hB6.cell 0 _ rfl
    have q1 : W0.cell? ⟨w.heap.size + 1, 1, none⟩ = some (.int .i64 0) := hB6.cell 1 _ rfl
    have f0 := hB6.free 0 none
    have f1 := hB6.free 1 none
    have hfin : ∀ W', Blk W' (w.heap.size + 1) 27 #[.slice none 0 0, .int .i64 0] → True := fun _ _ => trivial
    clear R0 R1 hA1 b1 hW hfin
    have HW0 := Lib.hid hW0
    clear hW0
    go_enter Try.func45, Try.ntmps45
    go_wp2
    rw [← HW0.out]
    go_loopw [8] (fun i wr => ∃ k : Nat, k ≤ vs.length ∧ i = .int .i64 k ∧ (∀ j (hj : j < vs.length), j < k → (vs[j]).1 < t) ∧ Hid (wr = W0)) (fun i _ => vs.length - (intOf i).toNat)
    case atStart => exact ⟨0, Nat.zero_le _, rfl, fun j hj h => by omega, Lib.hid rfl⟩
    case round =>
      obtain ⟨k, hk, rfl, hlow, hwr⟩ := hrel
      have hww := hwr.out
      subst hww
      have HLOW := Lib.hid hlow
      clear hlow
      by_cases hlt : k < vs.length
      · obtain ⟨ad, rfl, d0, _⟩ := HA.out k hlt
        by_cases hge : t ≤ (vs[k]).1
        · have hpe : putErr vs m t = 111 := by
            have := le_last hr hlt
            unfold putErr; rw [if_neg hat, if_pos (by omega)]
          have hpv : putVer vs m t v = vs := by unfold putVer; rw [if_neg (by rw [hpe]; decide)]
          have HPE := Lib.hid hpe
          have HPV := Lib.hid hpv
          obtain ⟨T, hT⟩ : ∃ T, T = (vs[k]).1 := ⟨_, rfl⟩
          rw [← hT] at d0 hge
          have hB7 := (hB6.set 0 (.slice (some ad) vs.length c)).set 1 (.int .i64 m)
          have b7 := (b0.setCell (p := ⟨w.heap.size + 1, 0, none⟩) (by show w.heap.size ≤ w.heap.size + 1; omega) (.slice (some ad) vs.length c)).setCell (p := ⟨w.heap.size + 1, 1, none⟩) (by show w.heap.size ≤ w.heap.size + 1; omega) (.int .i64 m)
          have hA7 := hA.below b7
          have HA7 := Lib.hid hA7
          have HBB := Lib.hid b7
          have hB7' : Blk ((wr.setCell ⟨w.heap.size + 1, 0, none⟩ (.slice (some ad) vs.length c)).setCell ⟨w.heap.size + 1, 1, none⟩ (.int .i64 m)) (w.heap.size + 1) 27 #[.slice (some ad) vs.length c, .int .i64 m] := by simpa using hB7
          have HB7 := Lib.hid hB7'
          clear hpe hpv hT hB7 hB7' b7 hA7
          go_wp2
          try simp only [Exit.inBlock, Exit.then]
          refine bodyPost_ret (results_two rfl rfl (HB7.out.cell 0 _ rfl) (HB7.out.cell 1 _ rfl)) rfl ?_
          exact ⟨some ad, c, by rw [HPE.out, HPV.out]; rfl, by rw [HPV.out]; exact hc, by rw [HPV.out]; exact HA7.out, HBB.out, fun ad e => .inl (by first | exact e | (cases e; rfl))⟩
        · obtain ⟨T, hT⟩ : ∃ T, T = (vs[k]).1 := ⟨_, rfl⟩
          have hlow2 : ∀ j (hj : j < vs.length), j < k + 1 → (vs[j]).1 < t := fun j hj h => by
            rcases Nat.lt_or_ge j k with h1 | h1
            · exact HLOW.out j hj h1
            · obtain rfl : j = k := by omega
              omega
          have HL2 := Lib.hid hlow2
          rw [← hT] at d0 hge
          clear hT hlow2
          go_wp2
          go_roundw
          case rel => exact ⟨k + 1, by omega, by go_num, HL2.out, by first | exact Lib.hid rfl | exact Lib.hid trivial⟩
          case measure => simp [intOf]; omega
      · obtain rfl : k = vs.length := by omega
        have hnl : ¬ (0 < vs.length ∧ t ≤ lastT vs) := by
          rintro ⟨h0, h1⟩
          have h4 := HLOW.out (vs.length - 1) (by omega) (by omega)
          have h5 : lastT vs = (vs[vs.length - 1]).1 := by unfold lastT; rw [List.getLast?_eq_getElem?, List.getElem?_eq_getElem (by omega)]; rfl
          omega
        have hB7 := (hB6.set 0 (.slice A vs.length c)).set 1 (.int .i64 m)
        have b7 := (b0.setCell (p := ⟨w.heap.size + 1, 0, none⟩) (by show w.heap.size ≤ w.heap.size + 1; omega) (.slice A vs.length c)).setCell (p := ⟨w.heap.size + 1, 1, none⟩) (by show w.heap.size ≤ w.heap.size + 1; omega) (.int .i64 m)
        have hA7 := hA.below b7
        have HA7 := Lib.hid hA7
        have HBB := Lib.hid b7
        have hB7' : Blk ((wr.setCell ⟨w.heap.size + 1, 0, none⟩ (.slice A vs.length c)).setCell ⟨w.heap.size + 1, 1, none⟩ (.int .i64 m)) (w.heap.size + 1) 27 #[.slice A vs.length c, .int .i64 m] := by simpa using hB7
        have HB7 := Lib.hid hB7'
        by_cases htm : t ≤ m
        · have hpe : putErr vs m t = 111 := by unfold putErr; rw [if_neg hat, if_pos (by omega)]
          have hpv : putVer vs m t v = vs := by unfold putVer; rw [if_neg (by rw [hpe]; decide)]
          have HPE := Lib.hid hpe
          have HPV := Lib.hid hpv
          clear hpe hpv hB7 hB7' b7 hA7 HA hlt hnl
          go_wp2
          try simp only [Exit.inBlock, Exit.then]
          refine bodyPost_ret (results_two rfl rfl (HB7.out.cell 0 _ rfl) (HB7.out.cell 1 _ rfl)) rfl ?_
          exact ⟨A, c, by rw [HPE.out, HPV.out]; rfl, by rw [HPV.out]; exact hc, by rw [HPV.out]; exact HA7.out, HBB.out, fun ad e => .inl (by first | exact e | (cases e; rfl))⟩
        · by_cases hfl : vs.length = 10000
          · have hpe : putErr vs m t = 112 := by unfold putErr; rw [if_neg hat, if_neg (by omega), if_pos (by omega)]
            have hpv : putVer vs m t v = vs := by unfold putVer; rw [if_neg (by rw [hpe]; decide)]
            have HPE := Lib.hid hpe
            have HPV := Lib.hid hpv
            have hfb : ((vs.length : Int) == 10000) = true := by simp; omega
            clear hpe hpv hB7 hB7' b7 hA7 HA hlt hnl hfl
            go_wp2
            try simp only [Exit.inBlock, Exit.then]
            refine bodyPost_ret (results_two rfl rfl (HB7.out.cell 0 _ rfl) (HB7.out.cell 1 _ rfl)) rfl ?_
            exact ⟨A, c, by rw [HPE.out, HPV.out]; rfl, by rw [HPV.out]; exact hc, by rw [HPV.out]; exact HA7.out, HBB.out, fun ad e => .inl (by first | exact e | (cases e; rfl))⟩
          · have hpe : putErr vs m t = 0 := by unfold putErr; rw [if_neg hat, if_neg (by omega), if_neg (by omega)]
            have hpv : putVer vs m t v = vs ++ [(t, v)] := by unfold putVer; rw [if_pos hpe]
            have HPE := Lib.hid hpe
            have HPV := Lib.hid hpv
            have hfb : ((vs.length : Int) == 10000) = false := by simp; omega
            have hlen : vs.length < 10000 := by omega
            clear hpe hpv hB7 hB7' b7 hA7 HA hlt hnl hfl HA7 HBB HB7
            have bb : Below wr.heap.size wr (wr.alloc (.cells #[] 34)) := (Below.refl _ _).alloc (Nat.le_refl _) _
            have hA8 := hA0.below bb
            have p0' : (wr.alloc (.cells #[] 34)).cell? ⟨w.heap.size, 0, none⟩ = some (.slice A vs.length c) := (bb.cell hB.lt).trans p0
            go_wp2_with (with_reducible refine halt_dst 45 ?_)
            refine wpList_append_row rfl (.tmp 42) (.tmp 44) 25 rfl wr.heap.size 34 (.agg #[.int .i64 0, .int .i64 0]) 2 16 Try.underlying25 Try.info34 rfl (by decide) (.slice (some ⟨wr.heap.size, 0, none⟩) 0 0) 0 [] rfl (row_new wr wr.heap.size 34 2 (Nat.le_refl _)) A vs.length c (vcs vs) rfl (vcs_length vs) hA8 (vcs_one vs) (by simp only [maxLen]; omega) (by omega) bb.size ?_
            intro v2 w2 r2 g2 _
            have B2 : Below wr.heap.size wr w2 := bb.grown g2 bb.size (fun j hj => by cases hj; exact Nat.le_refl _)
            rw [List.nil_append, Nat.zero_add] at r2
            have hl2 := r2.lt
            have r2' := r2
            obtain ⟨A2, c2, rfl, _, _, _, _⟩ := r2.cells (by rw [vcs_length]; omega)
            clear g2 hA8 bb r2
            go_wp2_with (with_reducible refine halt_dst 50 ?_)
            refine wpList_append_lit rfl (.tmp 45) (.tmp 49) 25 rfl wr.heap.size 34 (.agg #[.int .i64 0, .int .i64 0]) 2 16 Try.underlying25 Try.info34 rfl (by decide) (.slice A2 vs.length c2) vs.length (vcs vs) rfl r2' 1 1 #[.int .i64 t, .int .i64 v] rfl rfl (by intro u hu; simp at hu; rcases hu with rfl | rfl <;> rfl) (by simp only [maxLen]; omega) (by omega) B2.size (by simp) ?_
            intro v3 w3 r3 g3 _
            have B3 : Below wr.heap.size wr w3 := B2.grown g3 B2.size (fun j hj => (hl2 j hj).1)
            have hcs : vcs vs ++ [Value.int IntKind.i64 t, Value.int IntKind.i64 v] = vcs (vs ++ [(t, v)]) := by rw [vcs_append]; rfl
            have r3 : Row w3 wr.heap.size 34 2 v3 (vs.length + 1) (vcs (vs ++ [(t, v)])) := by rw [← hcs]; exact r3
            obtain ⟨A3, c3, rfl, hc3, _, hA3, hb3⟩ := r3.cells (by rw [vcs_length]; simp; omega)
            have hwl := hB.lt
            have hwl6 := hB6.lt
            have D := hB.below B3
            have D6 := hB6.below B3
            have u0 : w3.cell? ⟨w.heap.size, 0, none⟩ = some (.slice A vs.length c) := D.cell 0 _ rfl
            have u1 := D.free 0 none
            have E4 : Blk (w3.setCell ⟨w.heap.size, 0, none⟩ (.slice A3 (vs.length + 1) c3)) w.heap.size 27 #[.slice A3 (vs.length + 1) c3, .int .i64 m] := by simpa using D.set 0 (.slice A3 (vs.length + 1) c3)
            have E6 : Blk (w3.setCell ⟨w.heap.size, 0, none⟩ (.slice A3 (vs.length + 1) c3)) (w.heap.size + 1) 27 #[.slice none 0 0, .int .i64 0] := D6.kept (set_grown w3 ⟨w.heap.size, 0, none⟩ _) (by simp)
            have e0 : (w3.setCell ⟨w.heap.size, 0, none⟩ (.slice A3 (vs.length + 1) c3)).cell? ⟨w.heap.size, 0, none⟩ = some (.slice A3 (vs.length + 1) c3) := E4.cell 0 _ rfl
            have e1 : (w3.setCell ⟨w.heap.size, 0, none⟩ (.slice A3 (vs.length + 1) c3)).cell? ⟨w.heap.size, 1, none⟩ = some (.int .i64 m) := E4.cell 1 _ rfl
            have e2 : (w3.setCell ⟨w.heap.size, 0, none⟩ (.slice A3 (vs.length + 1) c3)).cell? ⟨w.heap.size + 1, 0, none⟩ = some (.slice none 0 0) := E6.cell 0 _ rfl
            have e3 : (w3.setCell ⟨w.heap.size, 0, none⟩ (.slice A3 (vs.length + 1) c3)).cell? ⟨w.heap.size + 1, 1, none⟩ = some (.int .i64 0) := E6.cell 1 _ rfl
            have e4 := E6.free 0 none
            have e5 := E6.free 1 none
            have E7 : Blk (((w3.setCell ⟨w.heap.size, 0, none⟩ (.slice A3 (vs.length + 1) c3)).setCell ⟨w.heap.size + 1, 0, none⟩ (.slice A3 (vs.length + 1) c3)).setCell ⟨w.heap.size + 1, 1, none⟩ (.int .i64 m)) (w.heap.size + 1) 27 #[.slice A3 (vs.length + 1) c3, .int .i64 m] := by
              simpa using (E6.set 0 (.slice A3 (vs.length + 1) c3)).set 1 (.int .i64 m)
            have hA4 := ((hA3.grown (set_grown w3 ⟨w.heap.size, 0, none⟩ (.slice A3 (vs.length + 1) c3)) (.inr (fun ad e e2 => by have := (hb3 ad e).1; simp at e2; omega))).grown (set_grown _ ⟨w.heap.size + 1, 0, none⟩ (.slice A3 (vs.length + 1) c3)) (.inr (fun ad e e2 => by have := (hb3 ad e).1; simp at e2; omega))).grown (set_grown _ ⟨w.heap.size + 1, 1, none⟩ (.int .i64 m)) (.inr (fun ad e e2 => by have := (hb3 ad e).1; simp at e2; omega))
            have BF : Below w.heap.size w (((w3.setCell ⟨w.heap.size, 0, none⟩ (.slice A3 (vs.length + 1) c3)).setCell ⟨w.heap.size + 1, 0, none⟩ (.slice A3 (vs.length + 1) c3)).setCell ⟨w.heap.size + 1, 1, none⟩ (.int .i64 m)) :=
              (((b0.trans (B3.mono b0.size)).setCell (p := ⟨w.heap.size, 0, none⟩) (Nat.le_refl _) _).setCell (p := ⟨w.heap.size + 1, 0, none⟩) (by show w.heap.size ≤ w.heap.size + 1; omega) _).setCell (p := ⟨w.heap.size + 1, 1, none⟩) (by show w.heap.size ≤ w.heap.size + 1; omega) _
            have HOUT := Lib.hid (show ∀ ad, A3 = some ad → A = some ad ∨ w.heap.size ≤ ad.block ∧ ad.block < w3.heap.size from fun ad e => .inr (by have := hb3 ad e; have := b0.size; omega))
            have HE7 := Lib.hid E7
            have HA4 := Lib.hid hA4
            have HBF := Lib.hid BF
            have hpl : (vs ++ [(t, v)]).length = vs.length + 1 := by simp
            have HPL := Lib.hid hpl
            clear hpl E7 hA4 BF E4 E6 D D6 g3 r3 r2' hl2 hA3 hb3 p0 p1 q0 q1 f0 f1 p0' B2 B3 hB hB6 hcs hwl hwl6
            go_wp2
            try simp only [Exit.inBlock, Exit.then]
            refine bodyPost_ret (results_two rfl rfl (HE7.out.cell 0 _ rfl) (HE7.out.cell 1 _ rfl)) rfl ?_
            exact ⟨A3, c3, by rw [HPE.out, HPV.out, HPL.out]; rfl, by rw [HPV.out, HPL.out]; exact hc3, by rw [HPV.out]; exact HA4.out, HBF.out, fun ad e => (HOUT.out ad e).imp id (fun h => ⟨h.1, by simpa [World.setCell] using h.2⟩)⟩
end Go.Proofs.Ytpacbbnnmopkjaa
