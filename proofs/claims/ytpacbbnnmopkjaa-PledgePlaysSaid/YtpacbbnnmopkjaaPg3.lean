/- The walk of pledge.Vote. -/
import Derived.Test.YtpacbbnnmopkjaaPgl
set_option linter.unusedVariables false
set_option linter.unusedSimpArgs false
namespace Go.Proofs.Ytpacbbnnmopkjaa
open Go.RowKit
theorem pbelow_drew {B : Nat} {a w : World} (h : Below B a w) : Below B a w.drew := ⟨h.os, h.tape, h.output, h.size, h.block⟩
theorem upd_drew {S : Nat → Prop} {w w1 : World} (h : Upd S w w1) : Upd S w w1.drew := ⟨h.os, h.tape, h.output, h.size, h.block⟩

set_option maxHeartbeats 4000000 in
set_option maxRecDepth 100000 in
theorem vote_true (g : Nat) (x : Tr) (p : PS) (yes : Bool) (t : Int) (w : World) (h : IsPledge w g x p) : Calls Try.prog 41 #[.pointer (some ⟨g, 0, Option.none⟩), .bool true, .bool yes, .int .i64 t] w fun e w' => e = .returned (.int .i64 (p.voteErr true yes t)) ∧ IsPledge w' g x (p.vote true yes t) ∧ Upd (fun k => k = g) w w' := by
  have H := Lib.hid h
  have HST := Lib.hid (stamp_calls t w)
  by_cases h1 : (yes && !stampOk t) = true
  · have e1 : p.voteErr true yes t = 174 := by unfold PS.voteErr; rw [if_pos h1]
    have e2 : p.vote true yes t = p := by unfold PS.vote; rw [if_neg (by rw [e1]; decide)]
    rw [e1, e2]
    have hy : yes = true := by cases yes <;> simp_all
    have hs : stampOk t = false := by cases hq : stampOk t <;> simp_all
    subst hy
    rw [hs] at HST
    clear h h1 e1 e2 hs
    go_enter Try.func41, Try.ntmps41
    go_wp2_with fail
    refine HST.out.mono ?_
    rintro e w1 ⟨rfl, rfl⟩
    go_wp2
    go_ret
    exact ⟨rfl, H.out, Upd.refl _ _⟩
  obtain ⟨W, hW⟩ : ∃ W, W = w.alloc (.cells #[.bool true, .bool yes, .int .i64 (if yes then t else 0)] 99) := ⟨_, rfl⟩
  have b1 : Below w.heap.size w W := by rw [hW]; exact (Below.refl _ _).alloc (Nat.le_refl _) _
  have n9 : Blk W w.heap.size 99 #[.bool true, .bool yes, .int .i64 (if yes then t else 0)] := by rw [hW]; exact Blk.new _ _ _
  have hP : IsPledge W g x p := h.below b1
  have hgl : g < w.heap.size := Blk.lt h
  have hst : yes = true → stampOk t = true := by intro hy; cases hq : stampOk t <;> simp_all
  have hWs : W.heap.size = w.heap.size + 1 := by rw [hW]; simp
  obtain ⟨t', ht'⟩ : ∃ t', t' = if yes then t else 0 := ⟨_, rfl⟩
  rw [← ht'] at hW n9
  have hnow : nowOf yes t = ⟨true, yes, t'⟩ := by rw [ht']; rfl
  have herr : p.voteErr true yes t = if (p.v0.said && decide (p.v0 ≠ ⟨true, yes, t'⟩)) = true then 175 else 0 := by
    unfold PS.voteErr
    rw [if_neg h1, hnow]; rfl
  have HST1 : yes = true → stampOk t = true := hst
  have HERR := Lib.hid herr
  have HVOTE := Lib.hid (show p.voteErr true yes t = 0 → p.vote true yes t = { p with v0 := ⟨true, yes, t'⟩, fate := (if yes = false ∧ p.fate = 0 then 3 else p.fate) } from fun he => by unfold PS.vote; rw [if_pos he, hnow]; rfl)
  have HVNO := Lib.hid (show p.voteErr true yes t ≠ 0 → p.vote true yes t = p from fun he => by unfold PS.vote; rw [if_neg he])
  have F1 := Lib.hid (And.intro b1 hWs)
  have HP := Lib.hid hP
  have N9 := Lib.hid n9
  have HW := Lib.hid hW
  clear h1 herr hnow hW b1 hWs hP n9 h hst
  have key : Calls Try.prog 41 #[.pointer (some ⟨g, 0, Option.none⟩), .bool true, .bool yes, .int .i64 t] w fun e w' => (e = .returned (.int .i64 (p.voteErr true yes t)) ∧ IsPledge w' g x (p.vote true yes t) ∧ Upd (fun k => k = g) w w') := by
    cases yes
    case true =>
      rw [HST1 rfl] at HST
      have ht2 : t' = t := ht'
      subst ht2
      clear ht' HST1
      go_enter Try.func41, Try.ntmps41
      go_wp2_with fail
      refine HST.out.mono ?_
      rintro e w1 ⟨rfl, rfl⟩
      go_upto_region 6 with fail
      rw [← HW.out]
      clear HW
      have hP := HP.out
      have n9 := N9.out
      have c4 : W.cell? ⟨g, 4, Option.none⟩ = some (.bool p.v0.said) := Blk.cell hP 4 _ rfl
      have c5 : W.cell? ⟨g, 5, Option.none⟩ = some (.bool p.v0.yes) := Blk.cell hP 5 _ rfl
      have c6 : W.cell? ⟨g, 6, Option.none⟩ = some (.int .i64 p.v0.t) := Blk.cell hP 6 _ rfl
      clear hP n9
      go_region_held3 (fun W => W.cell? ⟨g, 4, Option.none⟩ = some (.bool p.v0.said) ∧ W.cell? ⟨g, 5, Option.none⟩ = some (.bool p.v0.yes) ∧ W.cell? ⟨g, 6, Option.none⟩ = some (.int .i64 p.v0.t)) (go_keep) (first | (go_at_call 55; refine Calls.mono (side_calls true _) ?_; rintro e w2 ⟨rfl, rfl⟩))
      all_goals
        obtain ⟨W1, hW1⟩ : ∃ W1, W1 = (W.alloc (Obj.cells #[Value.bool p.v0.said, Value.bool p.v0.yes, Value.int IntKind.i64 p.v0.t] 99)).drew := ⟨_, rfl⟩
        have b2 : Below W.heap.size W W1 := by rw [hW1]; exact pbelow_drew ((Below.refl _ _).alloc (Nat.le_refl _) _)
        have n10 : Blk W1 W.heap.size 99 #[Value.bool p.v0.said, Value.bool p.v0.yes, Value.int IntKind.i64 p.v0.t] := by rw [hW1]; exact (Blk.new W 99 _).below (pbelow_drew (Below.refl _ _))
        have n9 := N9.out.below b2
        have hP := HP.out.below b2
        have hs1 := F1.out.2
        rw [← hW1]
        clear hW1 c4 c5 c6 N9 HP
        obtain ⟨b10, hb10⟩ : ∃ b, b = W.heap.size := ⟨_, rfl⟩
        rw [← hb10] at n10 hs1 ⊢
        have k0 : W1.cell? ⟨b10, 0, Option.none⟩ = some (.bool p.v0.said) := n10.cell 0 _ rfl
        have k1 : W1.cell? ⟨b10, 1, Option.none⟩ = some (.bool p.v0.yes) := n10.cell 1 _ rfl
        have k2 : W1.cell? ⟨b10, 2, Option.none⟩ = some (.int .i64 p.v0.t) := n10.cell 2 _ rfl
        have j0 : W1.cell? ⟨w.heap.size, 0, Option.none⟩ = some (.bool true) := n9.cell 0 _ rfl
        have j1 : W1.cell? ⟨w.heap.size, 1, Option.none⟩ = some (.bool true) := n9.cell 1 _ rfl
        have j2 : W1.cell? ⟨w.heap.size, 2, Option.none⟩ = some (.int .i64 t') := n9.cell 2 _ rfl
        have HU := Lib.hid (show Upd (fun k => k = g) w W1 from Upd.of_below (F1.out.1.trans (b2.mono (by omega))))
        have hgl1 : g < W1.heap.size := Blk.lt hP
        have hne9 : w.heap.size ≠ g := by omega
        have d0 : W1.cell? ⟨g, 4, Option.none⟩ = some (.bool p.v0.said) := Blk.cell hP 4 _ rfl
        have d1 : W1.cell? ⟨g, 5, Option.none⟩ = some (.bool p.v0.yes) := Blk.cell hP 5 _ rfl
        have d2 : W1.cell? ⟨g, 6, Option.none⟩ = some (.int .i64 p.v0.t) := Blk.cell hP 6 _ rfl
        have f0 : W1.frozen? ⟨g, 4, Option.none⟩ = false := Blk.free hP 4 Option.none
        have f1 : W1.frozen? ⟨g, 5, Option.none⟩ = false := Blk.free hP 5 Option.none
        have f2 : W1.frozen? ⟨g, 6, Option.none⟩ = false := Blk.free hP 6 Option.none
        have f3 : W1.frozen? ⟨g, 12, Option.none⟩ = false := Blk.free hP 12 Option.none
        have d3 : W1.cell? ⟨g, 12, Option.none⟩ = some (.int .i64 p.fate) := Blk.cell hP 12 _ rfl
        have HP := Lib.hid hP
        have HB := Lib.hid hb10
        have KZ := Lib.hid (show ∀ W2, Upd (fun k => k = g) W1 W2 → W2.cell? ⟨w.heap.size, 0, Option.none⟩ = some (.bool true) ∧ W2.cell? ⟨w.heap.size, 1, Option.none⟩ = some (.bool true) ∧ W2.cell? ⟨w.heap.size, 2, Option.none⟩ = some (.int .i64 t') from fun W2 hu =>
          ⟨(n9.upd hu hne9).cell 0 _ rfl, (n9.upd hu hne9).cell 1 _ rfl, (n9.upd hu hne9).cell 2 _ rfl⟩)
        have KZ := Lib.hid (KZ.out _ (upd_drew ((((Upd.refl (fun k => k = g) W1).set ⟨g, 4, Option.none⟩ (.bool true) (fun _ => rfl)).set ⟨g, 5, Option.none⟩ (.bool true) (fun _ => rfl)).set ⟨g, 6, Option.none⟩ (.int .i64 t') (fun _ => rfl))))
        clear b2 n10 n9 hP hb10 F1 hs1
        obtain ⟨vs, vy, vt, hV⟩ : ∃ a b c, p.v0 = ⟨a, b, c⟩ := ⟨p.v0.said, p.v0.yes, p.v0.t, rfl⟩
        rw [hV] at k0 k1 k2 d0 d1 d2 HERR ⊢
        simp only at k0 k1 k2 d0 d1 d2
        have HV := Lib.hid hV
        clear hV
        by_cases hc : vs = true ∧ (vy ≠ true ∨ vt ≠ t')
        · have hpe : p.voteErr true true t' = 175 := by
            have he := HERR.out
            simp only at he
            rw [he, if_pos]
            obtain ⟨h1, h2⟩ := hc
            subst h1
            simp only [Bool.true_and, decide_eq_true_eq]
            intro h3
            injection h3 with _ e1 e2
            rcases h2 with h2 | h2
            · exact h2 e1
            · exact h2 e2
          have HPE := Lib.hid hpe
          have HPV := Lib.hid (HVNO.out (by rw [hpe]; decide))
          obtain ⟨rfl, h2⟩ := hc
          clear hpe
          have H9 : IsPledge W1 g x p := HP.out
          have H9 := Lib.hid H9
          cases vy <;> by_cases ht : vt = t'
          all_goals (first | (exfalso; simp_all; done) | skip)
          all_goals
            first
              | (have ht2 : (vt == t') = true := by simpa using ht)
              | (have ht2 : (vt == t') = false := by simpa using ht)
            clear ht h2
            go_wp2_with fail
            go_ret
            exact ⟨by rw [HPE.out]; rfl, by rw [HPV.out]; exact H9.out, HU.out⟩
        · have hpe : p.voteErr true true t' = 0 := by
            have he := HERR.out
            simp only at he
            rw [he, if_neg]
            intro h1
            simp only [Bool.and_eq_true, decide_eq_true_eq] at h1
            refine hc ⟨h1.1, ?_⟩
            by_cases h2 : vy = true
            · by_cases h3 : vt = t'
              · exact absurd (by rw [h1.1, h2, h3]) h1.2
              · exact .inr h3
            · exact .inl h2
          have HPE := Lib.hid hpe
          have HPV := Lib.hid (HVOTE.out hpe)
          clear hpe
          have hW2 := ((HP.out.set 4 (.bool true)).set 5 (.bool true)).set 6 (.int .i64 t')
          have u2 := ((HU.out.set ⟨g, 4, Option.none⟩ (.bool true) (fun _ => rfl)).set ⟨g, 5, Option.none⟩ (.bool true) (fun _ => rfl)).set ⟨g, 6, Option.none⟩ (.int .i64 t') (fun _ => rfl)
          have HW3 := Lib.hid ((hW2.set 12 (.int .i64 3)).below (pbelow_drew (Below.refl _ _)))
          have U3 := Lib.hid (upd_drew (u2.set ⟨g, 12, Option.none⟩ (.int .i64 3) (fun _ => rfl)))
          have hW2 := hW2.below (pbelow_drew (Below.refl _ _))
          have u2 := upd_drew u2
          have HW2 := Lib.hid hW2
          have U2 := Lib.hid u2
          clear hW2 u2 HERR HVOTE HVNO HP
          by_cases hs : vs = true
          case' pos =>
            obtain ⟨rfl, e2⟩ : vy = true ∧ vt = t' := by
              by_cases h2 : vy = true
              · by_cases h3 : vt = t'
                · exact ⟨h2, h3⟩
                · exact absurd ⟨hs, .inr h3⟩ hc
              · exact absurd ⟨hs, .inl h2⟩ hc
            subst hs
            have e2 := e2.symm
            subst e2
            clear hc
          case' neg =>
            obtain rfl : vs = false := by simpa using hs
            clear hs hc
          all_goals
            go_upto_region 9 with fail
            go_region_held3 (fun W => W.cell? ⟨w.heap.size, 0, Option.none⟩ = some (.bool true) ∧ W.cell? ⟨w.heap.size, 1, Option.none⟩ = some (.bool true) ∧ W.cell? ⟨w.heap.size, 2, Option.none⟩ = some (.int .i64 t')) (first | exact KZ.out | go_keep) (first | (go_at_call 55; refine Calls.mono (side_calls true _) ?_; rintro e w2 ⟨rfl, rfl⟩))
          all_goals
            go_wp2_with fail
            go_ret
            exact ⟨by rw [HPE.out]; rfl, by rw [HPV.out]; simpa [IsPledge] using HW2.out, U2.out⟩
    case false =>
      have ht2 : t' = 0 := ht'
      subst ht2
      clear ht' HST1 HST
      go_enter Try.func41, Try.ntmps41
      go_upto_region 6 with fail
      rw [← HW.out]
      clear HW
      have hP := HP.out
      have n9 := N9.out
      have c4 : W.cell? ⟨g, 4, Option.none⟩ = some (.bool p.v0.said) := Blk.cell hP 4 _ rfl
      have c5 : W.cell? ⟨g, 5, Option.none⟩ = some (.bool p.v0.yes) := Blk.cell hP 5 _ rfl
      have c6 : W.cell? ⟨g, 6, Option.none⟩ = some (.int .i64 p.v0.t) := Blk.cell hP 6 _ rfl
      clear hP n9
      go_region_held3 (fun W => W.cell? ⟨g, 4, Option.none⟩ = some (.bool p.v0.said) ∧ W.cell? ⟨g, 5, Option.none⟩ = some (.bool p.v0.yes) ∧ W.cell? ⟨g, 6, Option.none⟩ = some (.int .i64 p.v0.t)) (go_keep) (first | (go_at_call 55; refine Calls.mono (side_calls true _) ?_; rintro e w2 ⟨rfl, rfl⟩))
      all_goals
        obtain ⟨W1, hW1⟩ : ∃ W1, W1 = (W.alloc (Obj.cells #[Value.bool p.v0.said, Value.bool p.v0.yes, Value.int IntKind.i64 p.v0.t] 99)).drew := ⟨_, rfl⟩
        have b2 : Below W.heap.size W W1 := by rw [hW1]; exact pbelow_drew ((Below.refl _ _).alloc (Nat.le_refl _) _)
        have n10 : Blk W1 W.heap.size 99 #[Value.bool p.v0.said, Value.bool p.v0.yes, Value.int IntKind.i64 p.v0.t] := by rw [hW1]; exact (Blk.new W 99 _).below (pbelow_drew (Below.refl _ _))
        have n9 := N9.out.below b2
        have hP := HP.out.below b2
        have hs1 := F1.out.2
        rw [← hW1]
        clear hW1 c4 c5 c6 N9 HP
        obtain ⟨b10, hb10⟩ : ∃ b, b = W.heap.size := ⟨_, rfl⟩
        rw [← hb10] at n10 hs1 ⊢
        have k0 : W1.cell? ⟨b10, 0, Option.none⟩ = some (.bool p.v0.said) := n10.cell 0 _ rfl
        have k1 : W1.cell? ⟨b10, 1, Option.none⟩ = some (.bool p.v0.yes) := n10.cell 1 _ rfl
        have k2 : W1.cell? ⟨b10, 2, Option.none⟩ = some (.int .i64 p.v0.t) := n10.cell 2 _ rfl
        have j0 : W1.cell? ⟨w.heap.size, 0, Option.none⟩ = some (.bool true) := n9.cell 0 _ rfl
        have j1 : W1.cell? ⟨w.heap.size, 1, Option.none⟩ = some (.bool false) := n9.cell 1 _ rfl
        have j2 : W1.cell? ⟨w.heap.size, 2, Option.none⟩ = some (.int .i64 0) := n9.cell 2 _ rfl
        have HU := Lib.hid (show Upd (fun k => k = g) w W1 from Upd.of_below (F1.out.1.trans (b2.mono (by omega))))
        have hgl1 : g < W1.heap.size := Blk.lt hP
        have hne9 : w.heap.size ≠ g := by omega
        have d0 : W1.cell? ⟨g, 4, Option.none⟩ = some (.bool p.v0.said) := Blk.cell hP 4 _ rfl
        have d1 : W1.cell? ⟨g, 5, Option.none⟩ = some (.bool p.v0.yes) := Blk.cell hP 5 _ rfl
        have d2 : W1.cell? ⟨g, 6, Option.none⟩ = some (.int .i64 p.v0.t) := Blk.cell hP 6 _ rfl
        have f0 : W1.frozen? ⟨g, 4, Option.none⟩ = false := Blk.free hP 4 Option.none
        have f1 : W1.frozen? ⟨g, 5, Option.none⟩ = false := Blk.free hP 5 Option.none
        have f2 : W1.frozen? ⟨g, 6, Option.none⟩ = false := Blk.free hP 6 Option.none
        have f3 : W1.frozen? ⟨g, 12, Option.none⟩ = false := Blk.free hP 12 Option.none
        have d3 : W1.cell? ⟨g, 12, Option.none⟩ = some (.int .i64 p.fate) := Blk.cell hP 12 _ rfl
        have HP := Lib.hid hP
        have HB := Lib.hid hb10
        have KZ := Lib.hid (show ∀ W2, Upd (fun k => k = g) W1 W2 → W2.cell? ⟨w.heap.size, 0, Option.none⟩ = some (.bool true) ∧ W2.cell? ⟨w.heap.size, 1, Option.none⟩ = some (.bool false) ∧ W2.cell? ⟨w.heap.size, 2, Option.none⟩ = some (.int .i64 0) from fun W2 hu =>
          ⟨(n9.upd hu hne9).cell 0 _ rfl, (n9.upd hu hne9).cell 1 _ rfl, (n9.upd hu hne9).cell 2 _ rfl⟩)
        have KZ := Lib.hid (KZ.out _ (upd_drew ((((Upd.refl (fun k => k = g) W1).set ⟨g, 4, Option.none⟩ (.bool true) (fun _ => rfl)).set ⟨g, 5, Option.none⟩ (.bool false) (fun _ => rfl)).set ⟨g, 6, Option.none⟩ (.int .i64 0) (fun _ => rfl))))
        clear b2 n10 n9 hP hb10 F1 hs1
        obtain ⟨vs, vy, vt, hV⟩ : ∃ a b c, p.v0 = ⟨a, b, c⟩ := ⟨p.v0.said, p.v0.yes, p.v0.t, rfl⟩
        rw [hV] at k0 k1 k2 d0 d1 d2 HERR ⊢
        simp only at k0 k1 k2 d0 d1 d2
        have HV := Lib.hid hV
        clear hV
        by_cases hc : vs = true ∧ (vy ≠ false ∨ vt ≠ 0)
        · have hpe : p.voteErr true false t = 175 := by
            have he := HERR.out
            simp only at he
            rw [he, if_pos]
            obtain ⟨h1, h2⟩ := hc
            subst h1
            simp only [Bool.true_and, decide_eq_true_eq]
            intro h3
            injection h3 with _ e1 e2
            rcases h2 with h2 | h2
            · exact h2 e1
            · exact h2 e2
          have HPE := Lib.hid hpe
          have HPV := Lib.hid (HVNO.out (by rw [hpe]; decide))
          obtain ⟨rfl, h2⟩ := hc
          clear hpe
          have H9 : IsPledge W1 g x p := HP.out
          have H9 := Lib.hid H9
          cases vy <;> by_cases ht : vt = 0
          all_goals (first | (exfalso; simp_all; done) | skip)
          all_goals
            first
              | (have ht2 : (vt == 0) = true := by simpa using ht)
              | (have ht2 : (vt == 0) = false := by simpa using ht)
            clear ht h2
            go_wp2_with fail
            go_ret
            exact ⟨by rw [HPE.out]; rfl, by rw [HPV.out]; exact H9.out, HU.out⟩
        · have hpe : p.voteErr true false t = 0 := by
            have he := HERR.out
            simp only at he
            rw [he, if_neg]
            intro h1
            simp only [Bool.and_eq_true, decide_eq_true_eq] at h1
            refine hc ⟨h1.1, ?_⟩
            by_cases h2 : vy = false
            · by_cases h3 : vt = 0
              · exact absurd (by rw [h1.1, h2, h3]) h1.2
              · exact .inr h3
            · exact .inl h2
          have HPE := Lib.hid hpe
          have HPV := Lib.hid (HVOTE.out hpe)
          clear hpe
          have hW2 := ((HP.out.set 4 (.bool true)).set 5 (.bool false)).set 6 (.int .i64 0)
          have u2 := ((HU.out.set ⟨g, 4, Option.none⟩ (.bool true) (fun _ => rfl)).set ⟨g, 5, Option.none⟩ (.bool false) (fun _ => rfl)).set ⟨g, 6, Option.none⟩ (.int .i64 0) (fun _ => rfl)
          have HW3 := Lib.hid ((hW2.set 12 (.int .i64 3)).below (pbelow_drew (Below.refl _ _)))
          have U3 := Lib.hid (upd_drew (u2.set ⟨g, 12, Option.none⟩ (.int .i64 3) (fun _ => rfl)))
          have hW2 := hW2.below (pbelow_drew (Below.refl _ _))
          have u2 := upd_drew u2
          have HW2 := Lib.hid hW2
          have U2 := Lib.hid u2
          clear hW2 u2 HERR HVOTE HVNO HP
          by_cases hs : vs = true
          case' pos =>
            obtain ⟨rfl, e2⟩ : vy = false ∧ vt = 0 := by
              by_cases h2 : vy = false
              · by_cases h3 : vt = 0
                · exact ⟨h2, h3⟩
                · exact absurd ⟨hs, .inr h3⟩ hc
              · exact absurd ⟨hs, .inl h2⟩ hc
            subst hs
            have e2 := e2.symm
            subst e2
            clear hc
          case' neg =>
            obtain rfl : vs = false := by simpa using hs
            clear hs hc
          all_goals
            go_upto_region 9 with fail
            go_region_held3 (fun W => W.cell? ⟨w.heap.size, 0, Option.none⟩ = some (.bool true) ∧ W.cell? ⟨w.heap.size, 1, Option.none⟩ = some (.bool false) ∧ W.cell? ⟨w.heap.size, 2, Option.none⟩ = some (.int .i64 0)) (first | exact KZ.out | go_keep) (first | (go_at_call 55; refine Calls.mono (side_calls true _) ?_; rintro e w2 ⟨rfl, rfl⟩))
          all_goals
            by_cases hf : p.fate = 0
            · have HPF := Lib.hid hf
              rw [hf] at d3
              clear hf
              go_wp2_with fail
              go_ret
              exact ⟨by rw [HPE.out]; rfl, by rw [HPV.out]; simpa [IsPledge, HPF.out] using HW3.out, U3.out⟩
            · have HPF := Lib.hid hf
              have hf2 : (p.fate == 0) = false := by simpa using hf
              clear hf
              go_wp2_with fail
              go_ret
              exact ⟨by rw [HPE.out]; rfl, by rw [HPV.out]; simpa [IsPledge, HPF.out] using HW2.out, U2.out⟩
  exact key

set_option maxHeartbeats 4000000 in
set_option maxRecDepth 100000 in
theorem vote_false (g : Nat) (x : Tr) (p : PS) (yes : Bool) (t : Int) (w : World) (h : IsPledge w g x p) : Calls Try.prog 41 #[.pointer (some ⟨g, 0, Option.none⟩), .bool false, .bool yes, .int .i64 t] w fun e w' => e = .returned (.int .i64 (p.voteErr false yes t)) ∧ IsPledge w' g x (p.vote false yes t) ∧ Upd (fun k => k = g) w w' := by
  have H := Lib.hid h
  have HST := Lib.hid (stamp_calls t w)
  by_cases h1 : (yes && !stampOk t) = true
  · have e1 : p.voteErr false yes t = 174 := by unfold PS.voteErr; rw [if_pos h1]
    have e2 : p.vote false yes t = p := by unfold PS.vote; rw [if_neg (by rw [e1]; decide)]
    rw [e1, e2]
    have hy : yes = true := by cases yes <;> simp_all
    have hs : stampOk t = false := by cases hq : stampOk t <;> simp_all
    subst hy
    rw [hs] at HST
    clear h h1 e1 e2 hs
    go_enter Try.func41, Try.ntmps41
    go_wp2_with fail
    refine HST.out.mono ?_
    rintro e w1 ⟨rfl, rfl⟩
    go_wp2
    go_ret
    exact ⟨rfl, H.out, Upd.refl _ _⟩
  obtain ⟨W, hW⟩ : ∃ W, W = w.alloc (.cells #[.bool true, .bool yes, .int .i64 (if yes then t else 0)] 99) := ⟨_, rfl⟩
  have b1 : Below w.heap.size w W := by rw [hW]; exact (Below.refl _ _).alloc (Nat.le_refl _) _
  have n9 : Blk W w.heap.size 99 #[.bool true, .bool yes, .int .i64 (if yes then t else 0)] := by rw [hW]; exact Blk.new _ _ _
  have hP : IsPledge W g x p := h.below b1
  have hgl : g < w.heap.size := Blk.lt h
  have hst : yes = true → stampOk t = true := by intro hy; cases hq : stampOk t <;> simp_all
  have hWs : W.heap.size = w.heap.size + 1 := by rw [hW]; simp
  obtain ⟨t', ht'⟩ : ∃ t', t' = if yes then t else 0 := ⟨_, rfl⟩
  rw [← ht'] at hW n9
  have hnow : nowOf yes t = ⟨true, yes, t'⟩ := by rw [ht']; rfl
  have herr : p.voteErr false yes t = if (p.v1.said && decide (p.v1 ≠ ⟨true, yes, t'⟩)) = true then 175 else 0 := by
    unfold PS.voteErr
    rw [if_neg h1, hnow]; rfl
  have HST1 : yes = true → stampOk t = true := hst
  have HERR := Lib.hid herr
  have HVOTE := Lib.hid (show p.voteErr false yes t = 0 → p.vote false yes t = { p with v1 := ⟨true, yes, t'⟩, fate := (if yes = false ∧ p.fate = 0 then 3 else p.fate) } from fun he => by unfold PS.vote; rw [if_pos he, hnow]; rfl)
  have HVNO := Lib.hid (show p.voteErr false yes t ≠ 0 → p.vote false yes t = p from fun he => by unfold PS.vote; rw [if_neg he])
  have F1 := Lib.hid (And.intro b1 hWs)
  have HP := Lib.hid hP
  have N9 := Lib.hid n9
  have HW := Lib.hid hW
  clear h1 herr hnow hW b1 hWs hP n9 h hst
  have key : Calls Try.prog 41 #[.pointer (some ⟨g, 0, Option.none⟩), .bool false, .bool yes, .int .i64 t] w fun e w' => (e = .returned (.int .i64 (p.voteErr false yes t)) ∧ IsPledge w' g x (p.vote false yes t) ∧ Upd (fun k => k = g) w w') := by
    cases yes
    case true =>
      rw [HST1 rfl] at HST
      have ht2 : t' = t := ht'
      subst ht2
      clear ht' HST1
      go_enter Try.func41, Try.ntmps41
      go_wp2_with fail
      refine HST.out.mono ?_
      rintro e w1 ⟨rfl, rfl⟩
      go_upto_region 6 with fail
      rw [← HW.out]
      clear HW
      have hP := HP.out
      have n9 := N9.out
      have c4 : W.cell? ⟨g, 7, Option.none⟩ = some (.bool p.v1.said) := Blk.cell hP 7 _ rfl
      have c5 : W.cell? ⟨g, 8, Option.none⟩ = some (.bool p.v1.yes) := Blk.cell hP 8 _ rfl
      have c6 : W.cell? ⟨g, 9, Option.none⟩ = some (.int .i64 p.v1.t) := Blk.cell hP 9 _ rfl
      clear hP n9
      go_region_held3 (fun W => W.cell? ⟨g, 7, Option.none⟩ = some (.bool p.v1.said) ∧ W.cell? ⟨g, 8, Option.none⟩ = some (.bool p.v1.yes) ∧ W.cell? ⟨g, 9, Option.none⟩ = some (.int .i64 p.v1.t)) (go_keep) (first | (go_at_call 55; refine Calls.mono (side_calls false _) ?_; rintro e w2 ⟨rfl, rfl⟩))
      all_goals
        obtain ⟨W1, hW1⟩ : ∃ W1, W1 = (W.alloc (Obj.cells #[Value.bool p.v1.said, Value.bool p.v1.yes, Value.int IntKind.i64 p.v1.t] 99)).drew := ⟨_, rfl⟩
        have b2 : Below W.heap.size W W1 := by rw [hW1]; exact pbelow_drew ((Below.refl _ _).alloc (Nat.le_refl _) _)
        have n10 : Blk W1 W.heap.size 99 #[Value.bool p.v1.said, Value.bool p.v1.yes, Value.int IntKind.i64 p.v1.t] := by rw [hW1]; exact (Blk.new W 99 _).below (pbelow_drew (Below.refl _ _))
        have n9 := N9.out.below b2
        have hP := HP.out.below b2
        have hs1 := F1.out.2
        rw [← hW1]
        clear hW1 c4 c5 c6 N9 HP
        obtain ⟨b10, hb10⟩ : ∃ b, b = W.heap.size := ⟨_, rfl⟩
        rw [← hb10] at n10 hs1 ⊢
        have k0 : W1.cell? ⟨b10, 0, Option.none⟩ = some (.bool p.v1.said) := n10.cell 0 _ rfl
        have k1 : W1.cell? ⟨b10, 1, Option.none⟩ = some (.bool p.v1.yes) := n10.cell 1 _ rfl
        have k2 : W1.cell? ⟨b10, 2, Option.none⟩ = some (.int .i64 p.v1.t) := n10.cell 2 _ rfl
        have j0 : W1.cell? ⟨w.heap.size, 0, Option.none⟩ = some (.bool true) := n9.cell 0 _ rfl
        have j1 : W1.cell? ⟨w.heap.size, 1, Option.none⟩ = some (.bool true) := n9.cell 1 _ rfl
        have j2 : W1.cell? ⟨w.heap.size, 2, Option.none⟩ = some (.int .i64 t') := n9.cell 2 _ rfl
        have HU := Lib.hid (show Upd (fun k => k = g) w W1 from Upd.of_below (F1.out.1.trans (b2.mono (by omega))))
        have hgl1 : g < W1.heap.size := Blk.lt hP
        have hne9 : w.heap.size ≠ g := by omega
        have d0 : W1.cell? ⟨g, 7, Option.none⟩ = some (.bool p.v1.said) := Blk.cell hP 7 _ rfl
        have d1 : W1.cell? ⟨g, 8, Option.none⟩ = some (.bool p.v1.yes) := Blk.cell hP 8 _ rfl
        have d2 : W1.cell? ⟨g, 9, Option.none⟩ = some (.int .i64 p.v1.t) := Blk.cell hP 9 _ rfl
        have f0 : W1.frozen? ⟨g, 7, Option.none⟩ = false := Blk.free hP 7 Option.none
        have f1 : W1.frozen? ⟨g, 8, Option.none⟩ = false := Blk.free hP 8 Option.none
        have f2 : W1.frozen? ⟨g, 9, Option.none⟩ = false := Blk.free hP 9 Option.none
        have f3 : W1.frozen? ⟨g, 12, Option.none⟩ = false := Blk.free hP 12 Option.none
        have d3 : W1.cell? ⟨g, 12, Option.none⟩ = some (.int .i64 p.fate) := Blk.cell hP 12 _ rfl
        have HP := Lib.hid hP
        have HB := Lib.hid hb10
        have KZ := Lib.hid (show ∀ W2, Upd (fun k => k = g) W1 W2 → W2.cell? ⟨w.heap.size, 0, Option.none⟩ = some (.bool true) ∧ W2.cell? ⟨w.heap.size, 1, Option.none⟩ = some (.bool true) ∧ W2.cell? ⟨w.heap.size, 2, Option.none⟩ = some (.int .i64 t') from fun W2 hu =>
          ⟨(n9.upd hu hne9).cell 0 _ rfl, (n9.upd hu hne9).cell 1 _ rfl, (n9.upd hu hne9).cell 2 _ rfl⟩)
        have KZ := Lib.hid (KZ.out _ (upd_drew ((((Upd.refl (fun k => k = g) W1).set ⟨g, 7, Option.none⟩ (.bool true) (fun _ => rfl)).set ⟨g, 8, Option.none⟩ (.bool true) (fun _ => rfl)).set ⟨g, 9, Option.none⟩ (.int .i64 t') (fun _ => rfl))))
        clear b2 n10 n9 hP hb10 F1 hs1
        obtain ⟨vs, vy, vt, hV⟩ : ∃ a b c, p.v1 = ⟨a, b, c⟩ := ⟨p.v1.said, p.v1.yes, p.v1.t, rfl⟩
        rw [hV] at k0 k1 k2 d0 d1 d2 HERR ⊢
        simp only at k0 k1 k2 d0 d1 d2
        have HV := Lib.hid hV
        clear hV
        by_cases hc : vs = true ∧ (vy ≠ true ∨ vt ≠ t')
        · have hpe : p.voteErr false true t' = 175 := by
            have he := HERR.out
            simp only at he
            rw [he, if_pos]
            obtain ⟨h1, h2⟩ := hc
            subst h1
            simp only [Bool.true_and, decide_eq_true_eq]
            intro h3
            injection h3 with _ e1 e2
            rcases h2 with h2 | h2
            · exact h2 e1
            · exact h2 e2
          have HPE := Lib.hid hpe
          have HPV := Lib.hid (HVNO.out (by rw [hpe]; decide))
          obtain ⟨rfl, h2⟩ := hc
          clear hpe
          have H9 : IsPledge W1 g x p := HP.out
          have H9 := Lib.hid H9
          cases vy <;> by_cases ht : vt = t'
          all_goals (first | (exfalso; simp_all; done) | skip)
          all_goals
            first
              | (have ht2 : (vt == t') = true := by simpa using ht)
              | (have ht2 : (vt == t') = false := by simpa using ht)
            clear ht h2
            go_wp2_with fail
            go_ret
            exact ⟨by rw [HPE.out]; rfl, by rw [HPV.out]; exact H9.out, HU.out⟩
        · have hpe : p.voteErr false true t' = 0 := by
            have he := HERR.out
            simp only at he
            rw [he, if_neg]
            intro h1
            simp only [Bool.and_eq_true, decide_eq_true_eq] at h1
            refine hc ⟨h1.1, ?_⟩
            by_cases h2 : vy = true
            · by_cases h3 : vt = t'
              · exact absurd (by rw [h1.1, h2, h3]) h1.2
              · exact .inr h3
            · exact .inl h2
          have HPE := Lib.hid hpe
          have HPV := Lib.hid (HVOTE.out hpe)
          clear hpe
          have hW2 := ((HP.out.set 7 (.bool true)).set 8 (.bool true)).set 9 (.int .i64 t')
          have u2 := ((HU.out.set ⟨g, 7, Option.none⟩ (.bool true) (fun _ => rfl)).set ⟨g, 8, Option.none⟩ (.bool true) (fun _ => rfl)).set ⟨g, 9, Option.none⟩ (.int .i64 t') (fun _ => rfl)
          have HW3 := Lib.hid ((hW2.set 12 (.int .i64 3)).below (pbelow_drew (Below.refl _ _)))
          have U3 := Lib.hid (upd_drew (u2.set ⟨g, 12, Option.none⟩ (.int .i64 3) (fun _ => rfl)))
          have hW2 := hW2.below (pbelow_drew (Below.refl _ _))
          have u2 := upd_drew u2
          have HW2 := Lib.hid hW2
          have U2 := Lib.hid u2
          clear hW2 u2 HERR HVOTE HVNO HP
          by_cases hs : vs = true
          case' pos =>
            obtain ⟨rfl, e2⟩ : vy = true ∧ vt = t' := by
              by_cases h2 : vy = true
              · by_cases h3 : vt = t'
                · exact ⟨h2, h3⟩
                · exact absurd ⟨hs, .inr h3⟩ hc
              · exact absurd ⟨hs, .inl h2⟩ hc
            subst hs
            have e2 := e2.symm
            subst e2
            clear hc
          case' neg =>
            obtain rfl : vs = false := by simpa using hs
            clear hs hc
          all_goals
            go_upto_region 9 with fail
            go_region_held3 (fun W => W.cell? ⟨w.heap.size, 0, Option.none⟩ = some (.bool true) ∧ W.cell? ⟨w.heap.size, 1, Option.none⟩ = some (.bool true) ∧ W.cell? ⟨w.heap.size, 2, Option.none⟩ = some (.int .i64 t')) (first | exact KZ.out | go_keep) (first | (go_at_call 55; refine Calls.mono (side_calls false _) ?_; rintro e w2 ⟨rfl, rfl⟩))
          all_goals
            go_wp2_with fail
            go_ret
            exact ⟨by rw [HPE.out]; rfl, by rw [HPV.out]; simpa [IsPledge] using HW2.out, U2.out⟩
    case false =>
      have ht2 : t' = 0 := ht'
      subst ht2
      clear ht' HST1 HST
      go_enter Try.func41, Try.ntmps41
      go_upto_region 6 with fail
      rw [← HW.out]
      clear HW
      have hP := HP.out
      have n9 := N9.out
      have c4 : W.cell? ⟨g, 7, Option.none⟩ = some (.bool p.v1.said) := Blk.cell hP 7 _ rfl
      have c5 : W.cell? ⟨g, 8, Option.none⟩ = some (.bool p.v1.yes) := Blk.cell hP 8 _ rfl
      have c6 : W.cell? ⟨g, 9, Option.none⟩ = some (.int .i64 p.v1.t) := Blk.cell hP 9 _ rfl
      clear hP n9
      go_region_held3 (fun W => W.cell? ⟨g, 7, Option.none⟩ = some (.bool p.v1.said) ∧ W.cell? ⟨g, 8, Option.none⟩ = some (.bool p.v1.yes) ∧ W.cell? ⟨g, 9, Option.none⟩ = some (.int .i64 p.v1.t)) (go_keep) (first | (go_at_call 55; refine Calls.mono (side_calls false _) ?_; rintro e w2 ⟨rfl, rfl⟩))
      all_goals
        obtain ⟨W1, hW1⟩ : ∃ W1, W1 = (W.alloc (Obj.cells #[Value.bool p.v1.said, Value.bool p.v1.yes, Value.int IntKind.i64 p.v1.t] 99)).drew := ⟨_, rfl⟩
        have b2 : Below W.heap.size W W1 := by rw [hW1]; exact pbelow_drew ((Below.refl _ _).alloc (Nat.le_refl _) _)
        have n10 : Blk W1 W.heap.size 99 #[Value.bool p.v1.said, Value.bool p.v1.yes, Value.int IntKind.i64 p.v1.t] := by rw [hW1]; exact (Blk.new W 99 _).below (pbelow_drew (Below.refl _ _))
        have n9 := N9.out.below b2
        have hP := HP.out.below b2
        have hs1 := F1.out.2
        rw [← hW1]
        clear hW1 c4 c5 c6 N9 HP
        obtain ⟨b10, hb10⟩ : ∃ b, b = W.heap.size := ⟨_, rfl⟩
        rw [← hb10] at n10 hs1 ⊢
        have k0 : W1.cell? ⟨b10, 0, Option.none⟩ = some (.bool p.v1.said) := n10.cell 0 _ rfl
        have k1 : W1.cell? ⟨b10, 1, Option.none⟩ = some (.bool p.v1.yes) := n10.cell 1 _ rfl
        have k2 : W1.cell? ⟨b10, 2, Option.none⟩ = some (.int .i64 p.v1.t) := n10.cell 2 _ rfl
        have j0 : W1.cell? ⟨w.heap.size, 0, Option.none⟩ = some (.bool true) := n9.cell 0 _ rfl
        have j1 : W1.cell? ⟨w.heap.size, 1, Option.none⟩ = some (.bool false) := n9.cell 1 _ rfl
        have j2 : W1.cell? ⟨w.heap.size, 2, Option.none⟩ = some (.int .i64 0) := n9.cell 2 _ rfl
        have HU := Lib.hid (show Upd (fun k => k = g) w W1 from Upd.of_below (F1.out.1.trans (b2.mono (by omega))))
        have hgl1 : g < W1.heap.size := Blk.lt hP
        have hne9 : w.heap.size ≠ g := by omega
        have d0 : W1.cell? ⟨g, 7, Option.none⟩ = some (.bool p.v1.said) := Blk.cell hP 7 _ rfl
        have d1 : W1.cell? ⟨g, 8, Option.none⟩ = some (.bool p.v1.yes) := Blk.cell hP 8 _ rfl
        have d2 : W1.cell? ⟨g, 9, Option.none⟩ = some (.int .i64 p.v1.t) := Blk.cell hP 9 _ rfl
        have f0 : W1.frozen? ⟨g, 7, Option.none⟩ = false := Blk.free hP 7 Option.none
        have f1 : W1.frozen? ⟨g, 8, Option.none⟩ = false := Blk.free hP 8 Option.none
        have f2 : W1.frozen? ⟨g, 9, Option.none⟩ = false := Blk.free hP 9 Option.none
        have f3 : W1.frozen? ⟨g, 12, Option.none⟩ = false := Blk.free hP 12 Option.none
        have d3 : W1.cell? ⟨g, 12, Option.none⟩ = some (.int .i64 p.fate) := Blk.cell hP 12 _ rfl
        have HP := Lib.hid hP
        have HB := Lib.hid hb10
        have KZ := Lib.hid (show ∀ W2, Upd (fun k => k = g) W1 W2 → W2.cell? ⟨w.heap.size, 0, Option.none⟩ = some (.bool true) ∧ W2.cell? ⟨w.heap.size, 1, Option.none⟩ = some (.bool false) ∧ W2.cell? ⟨w.heap.size, 2, Option.none⟩ = some (.int .i64 0) from fun W2 hu =>
          ⟨(n9.upd hu hne9).cell 0 _ rfl, (n9.upd hu hne9).cell 1 _ rfl, (n9.upd hu hne9).cell 2 _ rfl⟩)
        have KZ := Lib.hid (KZ.out _ (upd_drew ((((Upd.refl (fun k => k = g) W1).set ⟨g, 7, Option.none⟩ (.bool true) (fun _ => rfl)).set ⟨g, 8, Option.none⟩ (.bool false) (fun _ => rfl)).set ⟨g, 9, Option.none⟩ (.int .i64 0) (fun _ => rfl))))
        clear b2 n10 n9 hP hb10 F1 hs1
        obtain ⟨vs, vy, vt, hV⟩ : ∃ a b c, p.v1 = ⟨a, b, c⟩ := ⟨p.v1.said, p.v1.yes, p.v1.t, rfl⟩
        rw [hV] at k0 k1 k2 d0 d1 d2 HERR ⊢
        simp only at k0 k1 k2 d0 d1 d2
        have HV := Lib.hid hV
        clear hV
        by_cases hc : vs = true ∧ (vy ≠ false ∨ vt ≠ 0)
        · have hpe : p.voteErr false false t = 175 := by
            have he := HERR.out
            simp only at he
            rw [he, if_pos]
            obtain ⟨h1, h2⟩ := hc
            subst h1
            simp only [Bool.true_and, decide_eq_true_eq]
            intro h3
            injection h3 with _ e1 e2
            rcases h2 with h2 | h2
            · exact h2 e1
            · exact h2 e2
          have HPE := Lib.hid hpe
          have HPV := Lib.hid (HVNO.out (by rw [hpe]; decide))
          obtain ⟨rfl, h2⟩ := hc
          clear hpe
          have H9 : IsPledge W1 g x p := HP.out
          have H9 := Lib.hid H9
          cases vy <;> by_cases ht : vt = 0
          all_goals (first | (exfalso; simp_all; done) | skip)
          all_goals
            first
              | (have ht2 : (vt == 0) = true := by simpa using ht)
              | (have ht2 : (vt == 0) = false := by simpa using ht)
            clear ht h2
            go_wp2_with fail
            go_ret
            exact ⟨by rw [HPE.out]; rfl, by rw [HPV.out]; exact H9.out, HU.out⟩
        · have hpe : p.voteErr false false t = 0 := by
            have he := HERR.out
            simp only at he
            rw [he, if_neg]
            intro h1
            simp only [Bool.and_eq_true, decide_eq_true_eq] at h1
            refine hc ⟨h1.1, ?_⟩
            by_cases h2 : vy = false
            · by_cases h3 : vt = 0
              · exact absurd (by rw [h1.1, h2, h3]) h1.2
              · exact .inr h3
            · exact .inl h2
          have HPE := Lib.hid hpe
          have HPV := Lib.hid (HVOTE.out hpe)
          clear hpe
          have hW2 := ((HP.out.set 7 (.bool true)).set 8 (.bool false)).set 9 (.int .i64 0)
          have u2 := ((HU.out.set ⟨g, 7, Option.none⟩ (.bool true) (fun _ => rfl)).set ⟨g, 8, Option.none⟩ (.bool false) (fun _ => rfl)).set ⟨g, 9, Option.none⟩ (.int .i64 0) (fun _ => rfl)
          have HW3 := Lib.hid ((hW2.set 12 (.int .i64 3)).below (pbelow_drew (Below.refl _ _)))
          have U3 := Lib.hid (upd_drew (u2.set ⟨g, 12, Option.none⟩ (.int .i64 3) (fun _ => rfl)))
          have hW2 := hW2.below (pbelow_drew (Below.refl _ _))
          have u2 := upd_drew u2
          have HW2 := Lib.hid hW2
          have U2 := Lib.hid u2
          clear hW2 u2 HERR HVOTE HVNO HP
          by_cases hs : vs = true
          case' pos =>
            obtain ⟨rfl, e2⟩ : vy = false ∧ vt = 0 := by
              by_cases h2 : vy = false
              · by_cases h3 : vt = 0
                · exact ⟨h2, h3⟩
                · exact absurd ⟨hs, .inr h3⟩ hc
              · exact absurd ⟨hs, .inl h2⟩ hc
            subst hs
            have e2 := e2.symm
            subst e2
            clear hc
          case' neg =>
            obtain rfl : vs = false := by simpa using hs
            clear hs hc
          all_goals
            go_upto_region 9 with fail
            go_region_held3 (fun W => W.cell? ⟨w.heap.size, 0, Option.none⟩ = some (.bool true) ∧ W.cell? ⟨w.heap.size, 1, Option.none⟩ = some (.bool false) ∧ W.cell? ⟨w.heap.size, 2, Option.none⟩ = some (.int .i64 0)) (first | exact KZ.out | go_keep) (first | (go_at_call 55; refine Calls.mono (side_calls false _) ?_; rintro e w2 ⟨rfl, rfl⟩))
          all_goals
            by_cases hf : p.fate = 0
            · have HPF := Lib.hid hf
              rw [hf] at d3
              clear hf
              go_wp2_with fail
              go_ret
              exact ⟨by rw [HPE.out]; rfl, by rw [HPV.out]; simpa [IsPledge, HPF.out] using HW3.out, U3.out⟩
            · have HPF := Lib.hid hf
              have hf2 : (p.fate == 0) = false := by simpa using hf
              clear hf
              go_wp2_with fail
              go_ret
              exact ⟨by rw [HPE.out]; rfl, by rw [HPV.out]; simpa [IsPledge, HPF.out] using HW2.out, U2.out⟩
  exact key

theorem vote_calls (g : Nat) (x : Tr) (p : PS) (pays yes : Bool) (t : Int) (w : World) (h : IsPledge w g x p) : Calls Try.prog 41 #[.pointer (some ⟨g, 0, Option.none⟩), .bool pays, .bool yes, .int .i64 t] w fun e w' => e = .returned (.int .i64 (p.voteErr pays yes t)) ∧ IsPledge w' g x (p.vote pays yes t) ∧ Upd (fun k => k = g) w w' := by
  cases pays
  · exact vote_false g x p yes t w h
  · exact vote_true g x p yes t w h
end Go.Proofs.Ytpacbbnnmopkjaa
