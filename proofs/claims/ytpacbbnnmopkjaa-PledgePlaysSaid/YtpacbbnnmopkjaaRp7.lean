/- The walk of moietyref16.Do. -/
import Derived.Test.YtpacbbnnmopkjaaRp6
set_option linter.unusedVariables false
set_option linter.unusedSimpArgs false
namespace Go.Proofs.Ytpacbbnnmopkjaa
open Go.RowKit

set_option maxHeartbeats 8000000 in
set_option maxRecDepth 100000 in
theorem rdo_calls (i f t n : Int) (A : Option Addr) (m c : Nat) (l : List Sd) (x : Sd) (w : World) (hm : m = l.length) (hl : l.length ≤ 1000) (hA : Cells w A (sds l)) :
    Calls Try.prog 32 #[.agg #[.int .i64 i, .int .i64 f, .int .i64 t, .int .i64 n, .slice A m c], .agg #[.int .i64 x.kind, .bool x.pays, .bool x.yes, .int .i64 x.t]] w (DoneDo w i f t n A (rdo l x) (rdoErr l x)) := by
  subst hm
  obtain ⟨W0, hW0⟩ : ∃ W0, W0 = ((w.alloc (.cells #[.int .i64 i, .int .i64 f, .int .i64 t, .int .i64 n, .slice A l.length c] 65)).alloc (.cells #[.int .i64 x.kind, .bool x.pays, .bool x.yes, .int .i64 x.t] 67)).alloc (.cells #[.int .i64 0, .int .i64 0, .int .i64 0, .int .i64 0, .slice Option.none 0 0] 65) := ⟨_, rfl⟩
  have R : RD w W0 i f t n A c l x := by
    refine ⟨?_, ?_, ?_, hA, ?_⟩
    · rw [hW0]; exact ((Blk.new w 65 _).below (pbelow_one _ _)).below (pbelow_one _ _)
    · have := (Blk.new (w.alloc (.cells #[.int .i64 i, .int .i64 f, .int .i64 t, .int .i64 n, .slice A l.length c] 65)) 67 #[.int .i64 x.kind, .bool x.pays, .bool x.yes, .int .i64 x.t]).below (pbelow_one _ (.cells #[.int .i64 0, .int .i64 0, .int .i64 0, .int .i64 0, .slice Option.none 0 0] 65))
      rw [hW0]; simpa using this
    · have := Blk.new ((w.alloc (.cells #[.int .i64 i, .int .i64 f, .int .i64 t, .int .i64 n, .slice A l.length c] 65)).alloc (.cells #[.int .i64 x.kind, .bool x.pays, .bool x.yes, .int .i64 x.t] 67)) 65 #[.int .i64 0, .int .i64 0, .int .i64 0, .int .i64 0, .slice Option.none 0 0]
      rw [hW0]; simpa using this
    · rw [hW0]; exact (((Below.refl _ _).alloc (Nat.le_refl _) _).alloc (by simp) _).alloc (by simp; omega) _
  have R := Lib.hid R
  have HW0 := Lib.hid hW0
  have HF := Lib.hid (rfate_calls (.int .i64 i) (.int .i64 f) (.int .i64 t) (.int .i64 n) A l.length c l W0 rfl R.out.cells)
  have E0 := Lib.hid (rdoErr_0 l x)
  have E1 := Lib.hid (rdoErr_1 l x)
  have E2 := Lib.hid (rdoErr_2 l x)
  have E3 := Lib.hid (rdoErr_3 l x)
  obtain ⟨_, _, _, q4⟩ := vtOf_get (rvote l true)
  obtain ⟨_, _, _, r4⟩ := vtOf_get (rvote l false)
  have Q4 := Lib.hid q4
  have R4 := Lib.hid r4
  clear hA hW0 q4 r4
  go_enter Try.func32, Try.ntmps32
  go_wp2_with fail
  rw [← HW0.out]
  clear HW0
  refine HF.out.mono ?_
  rintro e w1 ⟨rfl, b1⟩
  have R := Lib.hid (R.out.later b1)
  clear b1 HF
  obtain ⟨c0, c1, c2, c3, c4⟩ := R.out.box2
  go_wp2_with fail
  refine (rvote_calls0 _ _ _ _ A l.length c l true w1 rfl R.out.cells).mono ?_
  rintro e w2 ⟨rfl, b2⟩
  obtain ⟨a, ha⟩ : ∃ a, a = (rvote l true).getD sd0 := ⟨_, rfl⟩
  obtain ⟨ok, hok⟩ : ∃ a, a = (rvote l true).isSome := ⟨_, rfl⟩
  rw [← ha, ← hok] at Q4
  rw [← ha] at E1
  rw [← ha, ← hok]
  have b3 := b2.alloc b2.size (.cells #[.int .i64 a.kind, .bool a.pays, .bool a.yes, .int .i64 a.t] 67)
  have n6 := Blk.new w2 67 #[.int .i64 a.kind, .bool a.pays, .bool a.yes, .int .i64 a.t]
  have R := Lib.hid (R.out.later b3)
  have N8 := Lib.hid n6
  clear b2 b3 n6 c0 c1 c2 c3 c4 ha hok
  go_upto_region 3 with fail
  generalize w2.alloc (Obj.cells #[.int .i64 a.kind, .bool a.pays, .bool a.yes, .int .i64 a.t] 67) = W3 at R N8 ⊢
  generalize w2.heap.size = b8 at N8 ⊢
  obtain ⟨c0, c1, c2, c3, c4⟩ := R.out.box2
  go_wp2_with fail
  refine (rvote_calls0 _ _ _ _ A l.length c l false W3 rfl R.out.cells).mono ?_
  rintro e w4 ⟨rfl, b4⟩
  obtain ⟨b, hb⟩ : ∃ a, a = (rvote l false).getD sd0 := ⟨_, rfl⟩
  obtain ⟨is, his⟩ : ∃ a, a = (rvote l false).isSome := ⟨_, rfl⟩
  rw [← hb, ← his] at R4
  rw [← hb] at E1
  rw [← hb, ← his]
  have b5 := b4.alloc b4.size (.cells #[.int .i64 b.kind, .bool b.pays, .bool b.yes, .int .i64 b.t] 67)
  have n8 := Blk.new w4 67 #[.int .i64 b.kind, .bool b.pays, .bool b.yes, .int .i64 b.t]
  have R := Lib.hid (R.out.later b5)
  have N8 := Lib.hid (N8.out.below b5)
  have N10 := Lib.hid n8
  clear b4 b5 n8 c0 c1 c2 c3 c4 hb his
  go_upto_region 4 with fail
  generalize w4.alloc (Obj.cells #[.int .i64 b.kind, .bool b.pays, .bool b.yes, .int .i64 b.t] 67) = W5 at R N8 N10 ⊢
  generalize w4.heap.size = b10 at N10 ⊢
  obtain ⟨F, hF⟩ : ∃ F, F = (rfate l).1 := ⟨_, rfl⟩
  obtain ⟨G, hG⟩ : ∃ F, F = (rfate l).2 := ⟨_, rfl⟩
  rw [← hF, ← hG] at E1
  rw [← hF] at E2 E3
  rw [← hF, ← hG]
  have HFR := Lib.hid (show F = 0 ∨ F = 2 ∨ F = 3 by have := rfate_range l; rw [← hF] at this; omega)
  clear hF hG
  obtain ⟨x0, x1, x2, x3⟩ := R.out.box3
  obtain ⟨ak, ap, ay, at_⟩ := a
  obtain ⟨bk, bp, by_, bt⟩ := b
  have y2 : W5.cell? ⟨b8, 2, Option.none⟩ = some (.bool ay) := N8.out.cell 2 _ rfl
  have y3 : W5.cell? ⟨b8, 3, Option.none⟩ = some (.int .i64 at_) := N8.out.cell 3 _ rfl
  have z2 : W5.cell? ⟨b10, 2, Option.none⟩ = some (.bool by_) := N10.out.cell 2 _ rfl
  have z3 : W5.cell? ⟨b10, 3, Option.none⟩ = some (.int .i64 bt) := N10.out.cell 3 _ rfl
  clear N8 N10
  obtain ⟨xk, xp, xy, xt⟩ := x
  simp only at x0 x1 x2 x3
  by_cases h0 : xk = 0
  · subst h0
    have E5 := Lib.hid (E0.out rfl)
    clear E0
    have E0 := E5
    clear E5
    simp only at E0
    clear E1 E2 E3 Q4 R4 HFR y2 y3 z2 z3
    cases xy
    · -- a no
      have R9 := Lib.hid (R.out.setT 0)
      simp only at R9
      simp only [Bool.false_and, Bool.false_eq_true, if_false] at E0
      have g3 : W5.frozen? ⟨w.heap.size + 1, 3, Option.none⟩ = false := R.out.n3.free 3 Option.none
      go_upto_region 12 with fail
      clear R g3
      have R := R9
      clear R9
      generalize W5.setCell ⟨w.heap.size + 1, 3, Option.none⟩ (.int .i64 0) = W5 at R ⊢
      obtain ⟨x0, x1, x2, x3⟩ := R.out.box3
      simp only at x0 x1 x2 x3
      obtain ⟨c0, c1, c2, c3, c4⟩ := R.out.box2
      go_wp2_with fail
      refine (rvote_calls0 _ _ _ _ A l.length c l xp _ rfl R.out.cells).mono ?_
      rintro e w6 ⟨rfl, b6⟩
      obtain ⟨o, ho⟩ : ∃ a, a = (rvote l xp).getD sd0 := ⟨_, rfl⟩
      obtain ⟨said, hsaid⟩ : ∃ a, a = (rvote l xp).isSome := ⟨_, rfl⟩
      rw [← ho, ← hsaid] at E0
      rw [← ho, ← hsaid]
      obtain ⟨o0, op, oy, ot⟩ := o
      have b7 := b6.alloc b6.size (.cells #[.int .i64 o0, .bool op, .bool oy, .int .i64 ot] 67)
      have n12 := Blk.new w6 67 #[.int .i64 o0, .bool op, .bool oy, .int .i64 ot]
      have R := Lib.hid (R.out.later b7)
      have N12 := Lib.hid n12
      clear b6 b7 n12 c0 c1 c2 c3 c4 ho hsaid x0 x1 x2 x3
      go_upto_region 13 with fail
      generalize w6.alloc (Obj.cells #[.int .i64 o0, .bool op, .bool oy, .int .i64 ot] 67) = W7 at R N12 ⊢
      generalize w6.heap.size = b12 at N12 ⊢
      have v2 : W7.cell? ⟨b12, 2, Option.none⟩ = some (.bool oy) := N12.out.cell 2 _ rfl
      have v3 : W7.cell? ⟨b12, 3, Option.none⟩ = some (.int .i64 ot) := N12.out.cell 3 _ rfl
      obtain ⟨x0, x1, x2, x3⟩ := R.out.box3
      simp only at x0 x1 x2 x3
      clear N12
      cases said
      · clear x0 x1 x2 x3
        have HRE := Lib.hid (show rdoErr l ⟨0, xp, false, xt⟩ = 0 from by rw [E0.out]; simp)
        have HRL := Lib.hid (rdo_ok0 (l := l) HRE.out rfl)
        obtain ⟨c0, c1, c2, c3, c4⟩ := R.out.box2
        obtain ⟨x0, x1, x2, x3⟩ := R.out.box3
        simp only at x0 x1 x2 x3
        go_wp2_with fail
        refine (with_calls i f t n A l.length c l ⟨0, xp, false, 0⟩ _ rfl hl R.out.cells).mono ?_
        rintro e w8 ⟨A3, c3', rfl, hC8, b8', ho8⟩
        obtain ⟨t0, t1, t2, t3, t4, t5, t6, t7, t8, t9⟩ := (R.out.later b8').box4
        have HE := Lib.hid (fun W9 (h : W9 = _) => R.out.ok b8' hC8 ho8 (c3 := c3') (W9 := W9) h)
        clear hC8 b8' ho8 c0 c1 c2 c3 c4 x0 x1 x2 x3
        go_wp2_with fail
        try simp only [Exit.inBlock, Exit.then]
        obtain ⟨E4, hC, hB, hO⟩ := HE.out _ rfl
        refine bodyPost_ret (results_pl2 rfl rfl (E4.cell 0 _ rfl) (E4.cell 1 _ rfl) (E4.cell 2 _ rfl) (E4.cell 3 _ rfl) (E4.cell 4 _ rfl)) rfl ?_
        exact ⟨A3, c3', by rw [HRE.out, HRL.out]; simp, by rw [HRL.out]; exact hC, hB, fun ad e => .inr (hO ad e)⟩
      · by_cases hy : oy = false
        · subst hy
          by_cases ht : ot = 0
          · have htb : (ot == 0) = true := by simpa using ht
            clear x0 x1 x2 x3
            have HRE := Lib.hid (show rdoErr l ⟨0, xp, false, xt⟩ = 0 from by rw [E0.out]; simp [ht])
            have HRL := Lib.hid (rdo_ok0 (l := l) HRE.out rfl)
            obtain ⟨c0, c1, c2, c3, c4⟩ := R.out.box2
            obtain ⟨x0, x1, x2, x3⟩ := R.out.box3
            simp only at x0 x1 x2 x3
            go_wp2_with fail
            refine (with_calls i f t n A l.length c l ⟨0, xp, false, 0⟩ _ rfl hl R.out.cells).mono ?_
            rintro e w8 ⟨A3, c3', rfl, hC8, b8', ho8⟩
            obtain ⟨t0, t1, t2, t3, t4, t5, t6, t7, t8, t9⟩ := (R.out.later b8').box4
            have HE := Lib.hid (fun W9 (h : W9 = _) => R.out.ok b8' hC8 ho8 (c3 := c3') (W9 := W9) h)
            clear hC8 b8' ho8 c0 c1 c2 c3 c4 x0 x1 x2 x3
            go_wp2_with fail
            try simp only [Exit.inBlock, Exit.then]
            obtain ⟨E4, hC, hB, hO⟩ := HE.out _ rfl
            refine bodyPost_ret (results_pl2 rfl rfl (E4.cell 0 _ rfl) (E4.cell 1 _ rfl) (E4.cell 2 _ rfl) (E4.cell 3 _ rfl) (E4.cell 4 _ rfl)) rfl ?_
            exact ⟨A3, c3', by rw [HRE.out, HRL.out]; simp, by rw [HRL.out]; exact hC, hB, fun ad e => .inr (hO ad e)⟩
          · have htb : (ot == 0) = false := by simpa using ht
            have HRE := Lib.hid (show rdoErr l ⟨0, xp, false, xt⟩ = 175 from by rw [E0.out]; simp [ht])
            have HRL := Lib.hid (rdo_err (l := l) (by rw [HRE.out]; decide))
            obtain ⟨c0, c1, c2, c3, c4⟩ := R.out.box2
            obtain ⟨t0, t1, t2, t3, t4, t5, t6, t7, t8, t9⟩ := R.out.box4
            go_wp2_with fail
            try simp only [Exit.inBlock, Exit.then]
            obtain ⟨E4, hC, hB⟩ := R.out.err rfl
            refine bodyPost_ret (results_pl2 rfl rfl (E4.cell 0 _ rfl) (E4.cell 1 _ rfl) (E4.cell 2 _ rfl) (E4.cell 3 _ rfl) (E4.cell 4 _ rfl)) rfl ?_
            exact ⟨A, c, by rw [HRE.out, HRL.out]; rfl, by rw [HRL.out]; exact hC, hB, fun ad e => .inl e⟩
        · obtain rfl : oy = !false := by cases oy <;> simp_all
          have HRE := Lib.hid (show rdoErr l ⟨0, xp, false, xt⟩ = 175 from by rw [E0.out]; simp)
          have HRL := Lib.hid (rdo_err (l := l) (by rw [HRE.out]; decide))
          obtain ⟨c0, c1, c2, c3, c4⟩ := R.out.box2
          obtain ⟨t0, t1, t2, t3, t4, t5, t6, t7, t8, t9⟩ := R.out.box4
          go_wp2_with fail
          try simp only [Exit.inBlock, Exit.then]
          obtain ⟨E4, hC, hB⟩ := R.out.err rfl
          refine bodyPost_ret (results_pl2 rfl rfl (E4.cell 0 _ rfl) (E4.cell 1 _ rfl) (E4.cell 2 _ rfl) (E4.cell 3 _ rfl) (E4.cell 4 _ rfl)) rfl ?_
          exact ⟨A, c, by rw [HRE.out, HRL.out]; rfl, by rw [HRL.out]; exact hC, hB, fun ad e => .inl e⟩
    · -- a yes
      go_wp2_with fail
      refine (rstamp_calls xt W5).mono ?_
      rintro e w6 ⟨rfl, rfl⟩
      rcases (show stampOk xt = false ∨ stampOk xt = true by cases stampOk xt <;> simp) with hst | hst <;> rw [hst]
      · clear x0 x1 x2 x3
        have HRE := Lib.hid (show rdoErr l ⟨0, xp, true, xt⟩ = 174 from by rw [E0.out]; simp [hst])
        have HRL := Lib.hid (rdo_err (l := l) (by rw [HRE.out]; decide))
        obtain ⟨c0, c1, c2, c3, c4⟩ := R.out.box2
        obtain ⟨t0, t1, t2, t3, t4, t5, t6, t7, t8, t9⟩ := R.out.box4
        go_wp2_with fail
        try simp only [Exit.inBlock, Exit.then]
        obtain ⟨E4, hC, hB⟩ := R.out.err rfl
        refine bodyPost_ret (results_pl2 rfl rfl (E4.cell 0 _ rfl) (E4.cell 1 _ rfl) (E4.cell 2 _ rfl) (E4.cell 3 _ rfl) (E4.cell 4 _ rfl)) rfl ?_
        exact ⟨A, c, by rw [HRE.out, HRL.out]; rfl, by rw [HRL.out]; exact hC, hB, fun ad e => .inl e⟩
      · have HST := Lib.hid hst
        simp only [hst, Bool.not_true, Bool.and_false, Bool.false_eq_true, if_false, if_true] at E0
        clear hst
        obtain ⟨c0, c1, c2, c3, c4⟩ := R.out.box2
        go_wp2_with fail
        refine (rvote_calls0 _ _ _ _ A l.length c l xp _ rfl R.out.cells).mono ?_
        rintro e w6 ⟨rfl, b6⟩
        obtain ⟨o, ho⟩ : ∃ a, a = (rvote l xp).getD sd0 := ⟨_, rfl⟩
        obtain ⟨said, hsaid⟩ : ∃ a, a = (rvote l xp).isSome := ⟨_, rfl⟩
        rw [← ho, ← hsaid] at E0
        rw [← ho, ← hsaid]
        obtain ⟨o0, op, oy, ot⟩ := o
        have b7 := b6.alloc b6.size (.cells #[.int .i64 o0, .bool op, .bool oy, .int .i64 ot] 67)
        have n12 := Blk.new w6 67 #[.int .i64 o0, .bool op, .bool oy, .int .i64 ot]
        have R := Lib.hid (R.out.later b7)
        have N12 := Lib.hid n12
        clear b6 b7 n12 c0 c1 c2 c3 c4 ho hsaid x0 x1 x2 x3
        go_upto_region 13 with fail
        generalize w6.alloc (Obj.cells #[.int .i64 o0, .bool op, .bool oy, .int .i64 ot] 67) = W7 at R N12 ⊢
        generalize w6.heap.size = b12 at N12 ⊢
        have v2 : W7.cell? ⟨b12, 2, Option.none⟩ = some (.bool oy) := N12.out.cell 2 _ rfl
        have v3 : W7.cell? ⟨b12, 3, Option.none⟩ = some (.int .i64 ot) := N12.out.cell 3 _ rfl
        obtain ⟨x0, x1, x2, x3⟩ := R.out.box3
        simp only at x0 x1 x2 x3
        clear N12
        cases said
        · clear x0 x1 x2 x3
          have HRE := Lib.hid (show rdoErr l ⟨0, xp, true, xt⟩ = 0 from by rw [E0.out]; simp)
          have HRL := Lib.hid (rdo_ok0 (l := l) HRE.out rfl)
          obtain ⟨c0, c1, c2, c3, c4⟩ := R.out.box2
          obtain ⟨x0, x1, x2, x3⟩ := R.out.box3
          simp only at x0 x1 x2 x3
          go_wp2_with fail
          refine (with_calls i f t n A l.length c l ⟨0, xp, true, xt⟩ _ rfl hl R.out.cells).mono ?_
          rintro e w8 ⟨A3, c3', rfl, hC8, b8', ho8⟩
          obtain ⟨t0, t1, t2, t3, t4, t5, t6, t7, t8, t9⟩ := (R.out.later b8').box4
          have HE := Lib.hid (fun W9 (h : W9 = _) => R.out.ok b8' hC8 ho8 (c3 := c3') (W9 := W9) h)
          clear hC8 b8' ho8 c0 c1 c2 c3 c4 x0 x1 x2 x3
          go_wp2_with fail
          try simp only [Exit.inBlock, Exit.then]
          obtain ⟨E4, hC, hB, hO⟩ := HE.out _ rfl
          refine bodyPost_ret (results_pl2 rfl rfl (E4.cell 0 _ rfl) (E4.cell 1 _ rfl) (E4.cell 2 _ rfl) (E4.cell 3 _ rfl) (E4.cell 4 _ rfl)) rfl ?_
          exact ⟨A3, c3', by rw [HRE.out, HRL.out]; simp, by rw [HRL.out]; exact hC, hB, fun ad e => .inr (hO ad e)⟩
        · by_cases hy : oy = true
          · subst hy
            by_cases ht : ot = xt
            · have htb : (ot == xt) = true := by simpa using ht
              clear x0 x1 x2 x3
              have HRE := Lib.hid (show rdoErr l ⟨0, xp, true, xt⟩ = 0 from by rw [E0.out]; simp [ht])
              have HRL := Lib.hid (rdo_ok0 (l := l) HRE.out rfl)
              obtain ⟨c0, c1, c2, c3, c4⟩ := R.out.box2
              obtain ⟨x0, x1, x2, x3⟩ := R.out.box3
              simp only at x0 x1 x2 x3
              go_wp2_with fail
              refine (with_calls i f t n A l.length c l ⟨0, xp, true, xt⟩ _ rfl hl R.out.cells).mono ?_
              rintro e w8 ⟨A3, c3', rfl, hC8, b8', ho8⟩
              obtain ⟨t0, t1, t2, t3, t4, t5, t6, t7, t8, t9⟩ := (R.out.later b8').box4
              have HE := Lib.hid (fun W9 (h : W9 = _) => R.out.ok b8' hC8 ho8 (c3 := c3') (W9 := W9) h)
              clear hC8 b8' ho8 c0 c1 c2 c3 c4 x0 x1 x2 x3
              go_wp2_with fail
              try simp only [Exit.inBlock, Exit.then]
              obtain ⟨E4, hC, hB, hO⟩ := HE.out _ rfl
              refine bodyPost_ret (results_pl2 rfl rfl (E4.cell 0 _ rfl) (E4.cell 1 _ rfl) (E4.cell 2 _ rfl) (E4.cell 3 _ rfl) (E4.cell 4 _ rfl)) rfl ?_
              exact ⟨A3, c3', by rw [HRE.out, HRL.out]; simp, by rw [HRL.out]; exact hC, hB, fun ad e => .inr (hO ad e)⟩
            · have htb : (ot == xt) = false := by simpa using ht
              have HRE := Lib.hid (show rdoErr l ⟨0, xp, true, xt⟩ = 175 from by rw [E0.out]; simp [ht])
              have HRL := Lib.hid (rdo_err (l := l) (by rw [HRE.out]; decide))
              obtain ⟨c0, c1, c2, c3, c4⟩ := R.out.box2
              obtain ⟨t0, t1, t2, t3, t4, t5, t6, t7, t8, t9⟩ := R.out.box4
              go_wp2_with fail
              try simp only [Exit.inBlock, Exit.then]
              obtain ⟨E4, hC, hB⟩ := R.out.err rfl
              refine bodyPost_ret (results_pl2 rfl rfl (E4.cell 0 _ rfl) (E4.cell 1 _ rfl) (E4.cell 2 _ rfl) (E4.cell 3 _ rfl) (E4.cell 4 _ rfl)) rfl ?_
              exact ⟨A, c, by rw [HRE.out, HRL.out]; rfl, by rw [HRL.out]; exact hC, hB, fun ad e => .inl e⟩
          · obtain rfl : oy = !true := by cases oy <;> simp_all
            have HRE := Lib.hid (show rdoErr l ⟨0, xp, true, xt⟩ = 175 from by rw [E0.out]; simp)
            have HRL := Lib.hid (rdo_err (l := l) (by rw [HRE.out]; decide))
            obtain ⟨c0, c1, c2, c3, c4⟩ := R.out.box2
            obtain ⟨t0, t1, t2, t3, t4, t5, t6, t7, t8, t9⟩ := R.out.box4
            go_wp2_with fail
            try simp only [Exit.inBlock, Exit.then]
            obtain ⟨E4, hC, hB⟩ := R.out.err rfl
            refine bodyPost_ret (results_pl2 rfl rfl (E4.cell 0 _ rfl) (E4.cell 1 _ rfl) (E4.cell 2 _ rfl) (E4.cell 3 _ rfl) (E4.cell 4 _ rfl)) rfl ?_
            exact ⟨A, c, by rw [HRE.out, HRL.out]; rfl, by rw [HRL.out]; exact hC, hB, fun ad e => .inl e⟩
  by_cases h1 : xk = 1
  · subst h1
    have E5 := Lib.hid (E1.out rfl)
    clear E1
    have E1 := E5
    clear E5
    simp only at E1
    clear E0 E2 E3 h0
    go_wp2_with fail
    refine (rstamp_calls xt W5).mono ?_
    rintro e w6 ⟨rfl, rfl⟩
    rcases (show stampOk xt = false ∨ stampOk xt = true by cases stampOk xt <;> simp) with hst | hst <;> rw [hst]
    · clear x0 x1 x2
      have HRE := Lib.hid (show rdoErr l ⟨1, xp, xy, xt⟩ = 174 from by rw [E1.out, if_pos hst])
      have HRL := Lib.hid (rdo_err (l := l) (by rw [HRE.out]; decide))
      obtain ⟨c0, c1, c2, c3, c4⟩ := R.out.box2
      obtain ⟨t0, t1, t2, t3, t4, t5, t6, t7, t8, t9⟩ := R.out.box4
      go_wp2_with fail
      try simp only [Exit.inBlock, Exit.then]
      obtain ⟨E4, hC, hB⟩ := R.out.err rfl
      refine bodyPost_ret (results_pl2 rfl rfl (E4.cell 0 _ rfl) (E4.cell 1 _ rfl) (E4.cell 2 _ rfl) (E4.cell 3 _ rfl) (E4.cell 4 _ rfl)) rfl ?_
      exact ⟨A, c, by rw [HRE.out, HRL.out]; rfl, by rw [HRL.out]; exact hC, hB, fun ad e => .inl e⟩
    · have E1 := Lib.hid (E1.out.trans (if_neg (by rw [hst]; decide)))
      clear hst
      rcases HFR.out with rfl | rfl | rfl
      · -- nothing is decided
        have E1 := Lib.hid (E1.out.trans (if_neg (by omega)))
        simp only [true_and] at E1
        have hac : ok = false ∧ ay = false ∨ ok = true ∧ ay = false ∨ ok = true ∧ ay = true := by
          cases ok
          · exact .inl ⟨rfl, (Q4.out rfl).1⟩
          · cases ay
            · exact .inr (.inl ⟨rfl, rfl⟩)
            · exact .inr (.inr ⟨rfl, rfl⟩)
        have hbc : is = false ∧ by_ = false ∨ is = true ∧ by_ = false ∨ is = true ∧ by_ = true := by
          cases is
          · exact .inl ⟨rfl, (R4.out rfl).1⟩
          · cases by_
            · exact .inr (.inl ⟨rfl, rfl⟩)
            · exact .inr (.inr ⟨rfl, rfl⟩)
        clear Q4 R4 HFR
        rcases hac with ⟨rfl, rfl⟩ | ⟨rfl, rfl⟩ | ⟨rfl, rfl⟩ <;> rcases hbc with ⟨rfl, rfl⟩ | ⟨rfl, rfl⟩ | ⟨rfl, rfl⟩
        case inr.inr.inr.inr =>
          have E1 := Lib.hid (E1.out.trans (if_neg (by decide)))
          by_cases ha : xt < at_
          · clear x0 x1 x2
            have HRE := Lib.hid (show rdoErr l ⟨1, xp, xy, xt⟩ = 178 from by rw [E1.out, if_pos (.inl ha)])
            have HRL := Lib.hid (rdo_err (l := l) (by rw [HRE.out]; decide))
            obtain ⟨c0, c1, c2, c3, c4⟩ := R.out.box2
            obtain ⟨t0, t1, t2, t3, t4, t5, t6, t7, t8, t9⟩ := R.out.box4
            go_wp2_with fail
            try simp only [Exit.inBlock, Exit.then]
            obtain ⟨E4, hC, hB⟩ := R.out.err rfl
            refine bodyPost_ret (results_pl2 rfl rfl (E4.cell 0 _ rfl) (E4.cell 1 _ rfl) (E4.cell 2 _ rfl) (E4.cell 3 _ rfl) (E4.cell 4 _ rfl)) rfl ?_
            exact ⟨A, c, by rw [HRE.out, HRL.out]; rfl, by rw [HRL.out]; exact hC, hB, fun ad e => .inl e⟩
          · by_cases hb : xt < bt
            · clear x0 x1 x2
              have HRE := Lib.hid (show rdoErr l ⟨1, xp, xy, xt⟩ = 178 from by rw [E1.out, if_pos (.inr hb)])
              have HRL := Lib.hid (rdo_err (l := l) (by rw [HRE.out]; decide))
              obtain ⟨c0, c1, c2, c3, c4⟩ := R.out.box2
              obtain ⟨t0, t1, t2, t3, t4, t5, t6, t7, t8, t9⟩ := R.out.box4
              go_wp2_with fail
              try simp only [Exit.inBlock, Exit.then]
              obtain ⟨E4, hC, hB⟩ := R.out.err rfl
              refine bodyPost_ret (results_pl2 rfl rfl (E4.cell 0 _ rfl) (E4.cell 1 _ rfl) (E4.cell 2 _ rfl) (E4.cell 3 _ rfl) (E4.cell 4 _ rfl)) rfl ?_
              exact ⟨A, c, by rw [HRE.out, HRL.out]; rfl, by rw [HRL.out]; exact hC, hB, fun ad e => .inl e⟩
            ·
              have HRE := Lib.hid (show rdoErr l ⟨1, xp, xy, xt⟩ = 0 from by rw [E1.out, if_neg (by omega)])
              have HRL := Lib.hid (rdo_ok (l := l) HRE.out (by intro h; cases h))
              obtain ⟨c0, c1, c2, c3, c4⟩ := R.out.box2
              obtain ⟨x0, x1, x2, x3⟩ := R.out.box3
              simp only at x0 x1 x2 x3
              go_wp2_with fail
              refine (with_calls i f t n A l.length c l ⟨1, xp, xy, xt⟩ _ rfl hl R.out.cells).mono ?_
              rintro e w8 ⟨A3, c3', rfl, hC8, b8', ho8⟩
              obtain ⟨t0, t1, t2, t3, t4, t5, t6, t7, t8, t9⟩ := (R.out.later b8').box4
              have HE := Lib.hid (fun W9 (h : W9 = _) => R.out.ok b8' hC8 ho8 (c3 := c3') (W9 := W9) h)
              clear hC8 b8' ho8 c0 c1 c2 c3 c4 x0 x1 x2 x3
              go_wp2_with fail
              try simp only [Exit.inBlock, Exit.then]
              obtain ⟨E4, hC, hB, hO⟩ := HE.out _ rfl
              refine bodyPost_ret (results_pl2 rfl rfl (E4.cell 0 _ rfl) (E4.cell 1 _ rfl) (E4.cell 2 _ rfl) (E4.cell 3 _ rfl) (E4.cell 4 _ rfl)) rfl ?_
              exact ⟨A3, c3', by rw [HRE.out, HRL.out]; simp, by rw [HRL.out]; exact hC, hB, fun ad e => .inr (hO ad e)⟩
        all_goals
          clear x0 x1 x2
          have HRE := Lib.hid (show rdoErr l ⟨1, xp, xy, xt⟩ = 177 from by rw [E1.out]; simp)
          have HRL := Lib.hid (rdo_err (l := l) (by rw [HRE.out]; decide))
          obtain ⟨c0, c1, c2, c3, c4⟩ := R.out.box2
          obtain ⟨t0, t1, t2, t3, t4, t5, t6, t7, t8, t9⟩ := R.out.box4
          go_wp2_with fail
          try simp only [Exit.inBlock, Exit.then]
          obtain ⟨E4, hC, hB⟩ := R.out.err rfl
          refine bodyPost_ret (results_pl2 rfl rfl (E4.cell 0 _ rfl) (E4.cell 1 _ rfl) (E4.cell 2 _ rfl) (E4.cell 3 _ rfl) (E4.cell 4 _ rfl)) rfl ?_
          exact ⟨A, c, by rw [HRE.out, HRL.out]; rfl, by rw [HRL.out]; exact hC, hB, fun ad e => .inl e⟩
      · -- committed
        by_cases hg : G = xt
        · have hgb : (G == xt) = true := by simpa using hg
          have E1 := Lib.hid ((E1.out.trans (if_neg (by simp [hg]))).trans (if_neg (by simp)))
          by_cases ha : xt < at_
          · clear x0 x1 x2 hg Q4 R4 HFR
            have HRE := Lib.hid (show rdoErr l ⟨1, xp, xy, xt⟩ = 178 from by rw [E1.out, if_pos (.inl ha)])
            have HRL := Lib.hid (rdo_err (l := l) (by rw [HRE.out]; decide))
            obtain ⟨c0, c1, c2, c3, c4⟩ := R.out.box2
            obtain ⟨t0, t1, t2, t3, t4, t5, t6, t7, t8, t9⟩ := R.out.box4
            go_wp2_with fail
            try simp only [Exit.inBlock, Exit.then]
            obtain ⟨E4, hC, hB⟩ := R.out.err rfl
            refine bodyPost_ret (results_pl2 rfl rfl (E4.cell 0 _ rfl) (E4.cell 1 _ rfl) (E4.cell 2 _ rfl) (E4.cell 3 _ rfl) (E4.cell 4 _ rfl)) rfl ?_
            exact ⟨A, c, by rw [HRE.out, HRL.out]; rfl, by rw [HRL.out]; exact hC, hB, fun ad e => .inl e⟩
          · by_cases hb : xt < bt
            · clear x0 x1 x2 hg Q4 R4 HFR
              have HRE := Lib.hid (show rdoErr l ⟨1, xp, xy, xt⟩ = 178 from by rw [E1.out, if_pos (.inr hb)])
              have HRL := Lib.hid (rdo_err (l := l) (by rw [HRE.out]; decide))
              obtain ⟨c0, c1, c2, c3, c4⟩ := R.out.box2
              obtain ⟨t0, t1, t2, t3, t4, t5, t6, t7, t8, t9⟩ := R.out.box4
              go_wp2_with fail
              try simp only [Exit.inBlock, Exit.then]
              obtain ⟨E4, hC, hB⟩ := R.out.err rfl
              refine bodyPost_ret (results_pl2 rfl rfl (E4.cell 0 _ rfl) (E4.cell 1 _ rfl) (E4.cell 2 _ rfl) (E4.cell 3 _ rfl) (E4.cell 4 _ rfl)) rfl ?_
              exact ⟨A, c, by rw [HRE.out, HRL.out]; rfl, by rw [HRL.out]; exact hC, hB, fun ad e => .inl e⟩
            · clear hg Q4 R4 HFR
              have HRE := Lib.hid (show rdoErr l ⟨1, xp, xy, xt⟩ = 0 from by rw [E1.out, if_neg (by omega)])
              have HRL := Lib.hid (rdo_ok (l := l) HRE.out (by intro h; cases h))
              obtain ⟨c0, c1, c2, c3, c4⟩ := R.out.box2
              obtain ⟨x0, x1, x2, x3⟩ := R.out.box3
              simp only at x0 x1 x2 x3
              go_wp2_with fail
              refine (with_calls i f t n A l.length c l ⟨1, xp, xy, xt⟩ _ rfl hl R.out.cells).mono ?_
              rintro e w8 ⟨A3, c3', rfl, hC8, b8', ho8⟩
              obtain ⟨t0, t1, t2, t3, t4, t5, t6, t7, t8, t9⟩ := (R.out.later b8').box4
              have HE := Lib.hid (fun W9 (h : W9 = _) => R.out.ok b8' hC8 ho8 (c3 := c3') (W9 := W9) h)
              clear hC8 b8' ho8 c0 c1 c2 c3 c4 x0 x1 x2 x3
              go_wp2_with fail
              try simp only [Exit.inBlock, Exit.then]
              obtain ⟨E4, hC, hB, hO⟩ := HE.out _ rfl
              refine bodyPost_ret (results_pl2 rfl rfl (E4.cell 0 _ rfl) (E4.cell 1 _ rfl) (E4.cell 2 _ rfl) (E4.cell 3 _ rfl) (E4.cell 4 _ rfl)) rfl ?_
              exact ⟨A3, c3', by rw [HRE.out, HRL.out]; simp, by rw [HRL.out]; exact hC, hB, fun ad e => .inr (hO ad e)⟩
        · have hgb : (G == xt) = false := by simpa using hg
          clear x0 x1 x2 Q4 R4 HFR
          have HRE := Lib.hid (show rdoErr l ⟨1, xp, xy, xt⟩ = 176 from by rw [E1.out, if_pos (.inr ⟨rfl, hg⟩)])
          have HRL := Lib.hid (rdo_err (l := l) (by rw [HRE.out]; decide))
          obtain ⟨c0, c1, c2, c3, c4⟩ := R.out.box2
          obtain ⟨t0, t1, t2, t3, t4, t5, t6, t7, t8, t9⟩ := R.out.box4
          go_wp2_with fail
          try simp only [Exit.inBlock, Exit.then]
          obtain ⟨E4, hC, hB⟩ := R.out.err rfl
          refine bodyPost_ret (results_pl2 rfl rfl (E4.cell 0 _ rfl) (E4.cell 1 _ rfl) (E4.cell 2 _ rfl) (E4.cell 3 _ rfl) (E4.cell 4 _ rfl)) rfl ?_
          exact ⟨A, c, by rw [HRE.out, HRL.out]; rfl, by rw [HRL.out]; exact hC, hB, fun ad e => .inl e⟩
      · -- dropped
        clear x0 x1 x2 Q4 R4 HFR
        have HRE := Lib.hid (show rdoErr l ⟨1, xp, xy, xt⟩ = 176 from by rw [E1.out, if_pos (.inl rfl)])
        have HRL := Lib.hid (rdo_err (l := l) (by rw [HRE.out]; decide))
        obtain ⟨c0, c1, c2, c3, c4⟩ := R.out.box2
        obtain ⟨t0, t1, t2, t3, t4, t5, t6, t7, t8, t9⟩ := R.out.box4
        go_wp2_with fail
        try simp only [Exit.inBlock, Exit.then]
        obtain ⟨E4, hC, hB⟩ := R.out.err rfl
        refine bodyPost_ret (results_pl2 rfl rfl (E4.cell 0 _ rfl) (E4.cell 1 _ rfl) (E4.cell 2 _ rfl) (E4.cell 3 _ rfl) (E4.cell 4 _ rfl)) rfl ?_
        exact ⟨A, c, by rw [HRE.out, HRL.out]; rfl, by rw [HRL.out]; exact hC, hB, fun ad e => .inl e⟩
  by_cases h2 : xk = 2
  · subst h2
    have E2 := Lib.hid (E2.out rfl)
    clear E0 E1 E3 h0 h1 Q4 R4 HFR x1 x2 x3
    by_cases hf : F = 2
    · have hfb : (F == 2) = true := by simpa using hf
      have HRE := Lib.hid (show rdoErr l ⟨2, xp, xy, xt⟩ = 176 from by rw [E2.out, if_pos hf])
      have HRL := Lib.hid (rdo_err (l := l) (by rw [HRE.out]; decide))
      obtain ⟨c0, c1, c2, c3, c4⟩ := R.out.box2
      obtain ⟨t0, t1, t2, t3, t4, t5, t6, t7, t8, t9⟩ := R.out.box4
      go_wp2_with fail
      try simp only [Exit.inBlock, Exit.then]
      obtain ⟨E4, hC, hB⟩ := R.out.err rfl
      refine bodyPost_ret (results_pl2 rfl rfl (E4.cell 0 _ rfl) (E4.cell 1 _ rfl) (E4.cell 2 _ rfl) (E4.cell 3 _ rfl) (E4.cell 4 _ rfl)) rfl ?_
      exact ⟨A, c, by rw [HRE.out, HRL.out]; rfl, by rw [HRL.out]; exact hC, hB, fun ad e => .inl e⟩
    · have hfb : (F == 2) = false := by simpa using hf
      clear x0
      have HRE := Lib.hid (show rdoErr l ⟨2, xp, xy, xt⟩ = 0 from by rw [E2.out, if_neg hf])
      have HRL := Lib.hid (rdo_ok (l := l) HRE.out (by intro h; cases h))
      obtain ⟨c0, c1, c2, c3, c4⟩ := R.out.box2
      obtain ⟨x0, x1, x2, x3⟩ := R.out.box3
      simp only at x0 x1 x2 x3
      go_wp2_with fail
      refine (with_calls i f t n A l.length c l ⟨2, xp, xy, xt⟩ _ rfl hl R.out.cells).mono ?_
      rintro e w8 ⟨A3, c3', rfl, hC8, b8', ho8⟩
      obtain ⟨t0, t1, t2, t3, t4, t5, t6, t7, t8, t9⟩ := (R.out.later b8').box4
      have HE := Lib.hid (fun W9 (h : W9 = _) => R.out.ok b8' hC8 ho8 (c3 := c3') (W9 := W9) h)
      clear hC8 b8' ho8 c0 c1 c2 c3 c4 x0 x1 x2 x3
      go_wp2_with fail
      try simp only [Exit.inBlock, Exit.then]
      obtain ⟨E4, hC, hB, hO⟩ := HE.out _ rfl
      refine bodyPost_ret (results_pl2 rfl rfl (E4.cell 0 _ rfl) (E4.cell 1 _ rfl) (E4.cell 2 _ rfl) (E4.cell 3 _ rfl) (E4.cell 4 _ rfl)) rfl ?_
      exact ⟨A3, c3', by rw [HRE.out, HRL.out]; simp, by rw [HRL.out]; exact hC, hB, fun ad e => .inr (hO ad e)⟩
  have hk0 : (xk == 0) = false := by simpa using h0
  have hk1 : (xk == 1) = false := by simpa using h1
  have hk2 : (xk == 2) = false := by simpa using h2
  have E3 := Lib.hid (E3.out ⟨h0, h1, h2⟩)
  have HKN := Lib.hid h0
  clear E0 E1 E2 h0 h1 h2 Q4 R4 HFR x1 x2 x3
  by_cases hf : F = 0
  · have hfb : (F == 0) = true := by simpa using hf
    have HRE := Lib.hid (show rdoErr l ⟨xk, xp, xy, xt⟩ = 176 from by rw [E3.out, if_pos hf])
    have HRL := Lib.hid (rdo_err (l := l) (by rw [HRE.out]; decide))
    obtain ⟨c0, c1, c2, c3, c4⟩ := R.out.box2
    obtain ⟨t0, t1, t2, t3, t4, t5, t6, t7, t8, t9⟩ := R.out.box4
    go_wp2_with fail
    try simp only [Exit.inBlock, Exit.then]
    obtain ⟨E4, hC, hB⟩ := R.out.err rfl
    refine bodyPost_ret (results_pl2 rfl rfl (E4.cell 0 _ rfl) (E4.cell 1 _ rfl) (E4.cell 2 _ rfl) (E4.cell 3 _ rfl) (E4.cell 4 _ rfl)) rfl ?_
    exact ⟨A, c, by rw [HRE.out, HRL.out]; rfl, by rw [HRL.out]; exact hC, hB, fun ad e => .inl e⟩
  · have hfb : (F == 0) = false := by simpa using hf
    clear x0
    have HRE := Lib.hid (show rdoErr l ⟨xk, xp, xy, xt⟩ = 0 from by rw [E3.out, if_neg hf])
    have HRL := Lib.hid (rdo_ok (l := l) HRE.out HKN.out)
    obtain ⟨c0, c1, c2, c3, c4⟩ := R.out.box2
    obtain ⟨x0, x1, x2, x3⟩ := R.out.box3
    simp only at x0 x1 x2 x3
    go_wp2_with fail
    refine (with_calls i f t n A l.length c l ⟨xk, xp, xy, xt⟩ _ rfl hl R.out.cells).mono ?_
    rintro e w8 ⟨A3, c3', rfl, hC8, b8', ho8⟩
    obtain ⟨t0, t1, t2, t3, t4, t5, t6, t7, t8, t9⟩ := (R.out.later b8').box4
    have HE := Lib.hid (fun W9 (h : W9 = _) => R.out.ok b8' hC8 ho8 (c3 := c3') (W9 := W9) h)
    clear hC8 b8' ho8 c0 c1 c2 c3 c4 x0 x1 x2 x3
    go_wp2_with fail
    try simp only [Exit.inBlock, Exit.then]
    obtain ⟨E4, hC, hB, hO⟩ := HE.out _ rfl
    refine bodyPost_ret (results_pl2 rfl rfl (E4.cell 0 _ rfl) (E4.cell 1 _ rfl) (E4.cell 2 _ rfl) (E4.cell 3 _ rfl) (E4.cell 4 _ rfl)) rfl ?_
    exact ⟨A3, c3', by rw [HRE.out, HRL.out]; simp, by rw [HRL.out]; exact hC, hB, fun ad e => .inr (hO ad e)⟩
end Go.Proofs.Ytpacbbnnmopkjaa
