/- PledgeParts: the walk of the law. -/
import Derived.Test.YtpacbbnnmopkjaaPg6
set_option linter.unusedVariables false
set_option linter.unusedSimpArgs false
namespace Go.Proofs.Ytpacbbnnmopkjaa
open Go.RowKit

/-- Blocks that stay: some blocks of four cells of one type. -/
structure Six (w0 w : World) (x y : Tr) (p q : Nat) (P : PS) (Q : PS) : Prop where
  bx : Blk w w0.heap.size 53 #[.int .i64 x.id, .int .i64 x.frm, .int .i64 x.to, .int .i64 x.n]
  by_ : Blk w (w0.heap.size + 1) 53 #[.int .i64 y.id, .int .i64 y.frm, .int .i64 y.to, .int .i64 y.n]
  pl : IsPledge w p x P
  ql : IsPledge w q y Q
  bl : Below w0.heap.size w0 w
theorem Six.later {w0 w w' : World} {x y : Tr} {p q : Nat} {P Q : PS} (h : Six w0 w x y p q P Q) (hb : Below w.heap.size w w') : Six w0 w' x y p q P Q :=
  ⟨h.bx.below hb, h.by_.below hb, h.pl.below hb, h.ql.below hb, h.bl.trans (hb.mono h.bl.size)⟩
theorem trErr_id {x : Tr} (h : trErr x = 0) : 1 ≤ x.id ∧ x.id ≤ 1000000 := by
  unfold trErr at h
  split at h
  · cases h
  · omega

set_option maxHeartbeats 4000000 in
set_option maxRecDepth 100000 in
theorem pledgeParts_core (x y : Tr) (w : World) :
    Calls Try.prog 13 #[.agg #[.int .i64 x.id, .int .i64 x.frm, .int .i64 x.to, .int .i64 x.n], .agg #[.int .i64 y.id, .int .i64 y.frm, .int .i64 y.to, .int .i64 y.n]] w fun e w' => e = .returned (.bool true) ∧ Below w.heap.size w w' := by
  obtain ⟨W0, hW0⟩ : ∃ W0, W0 = (w.alloc (.cells #[.int .i64 x.id, .int .i64 x.frm, .int .i64 x.to, .int .i64 x.n] 53)).alloc (.cells #[.int .i64 y.id, .int .i64 y.frm, .int .i64 y.to, .int .i64 y.n] 53) := ⟨_, rfl⟩
  have b0 : Below w.heap.size w W0 := by rw [hW0]; exact ((Below.refl _ _).alloc (Nat.le_refl _) _).alloc (by simp) _
  have nx : Blk W0 w.heap.size 53 #[.int .i64 x.id, .int .i64 x.frm, .int .i64 x.to, .int .i64 x.n] := by rw [hW0]; exact (Blk.new w 53 _).below (pbelow_one _ _)
  have ny : Blk W0 (w.heap.size + 1) 53 #[.int .i64 y.id, .int .i64 y.frm, .int .i64 y.to, .int .i64 y.n] := by
    have := Blk.new (w.alloc (.cells #[.int .i64 x.id, .int .i64 x.frm, .int .i64 x.to, .int .i64 x.n] 53)) 53 #[.int .i64 y.id, .int .i64 y.frm, .int .i64 y.to, .int .i64 y.n]
    rw [hW0]; simpa using this
  have HNX := Lib.hid (pnew_calls x W0)
  have B0 := Lib.hid b0
  have NX := Lib.hid nx
  have NY := Lib.hid ny
  have HW0 := Lib.hid hW0
  rw [show trVal x = .agg #[.int .i64 x.id, .int .i64 x.frm, .int .i64 x.to, .int .i64 x.n] from rfl] at HNX
  clear b0 nx ny hW0
  go_enter Try.func13, Try.ntmps13
  go_wp2_with fail
  rw [← HW0.out]
  clear HW0
  refine HNX.out.mono ?_
  rintro e w1 ⟨hx1, hx2, b1⟩
  have HNY := Lib.hid (pnew_calls y w1)
  rw [show trVal y = .agg #[.int .i64 y.id, .int .i64 y.frm, .int .i64 y.to, .int .i64 y.n] from rfl] at HNY
  have NX1 := Lib.hid (NX.out.below b1)
  have NY1 := Lib.hid (NY.out.below b1)
  have B1 := Lib.hid (B0.out.trans (b1.mono B0.out.size))
  have hb1 := b1.size
  have c0 := NY1.out.cell 0 _ rfl
  have c1 := NY1.out.cell 1 _ rfl
  have c2 := NY1.out.cell 2 _ rfl
  have c3 := NY1.out.cell 3 _ rfl
  simp only [List.getElem_toArray, List.getElem_cons_zero, List.getElem_cons_succ] at c0 c1 c2 c3
  clear b1 HNX NX NY B0
  by_cases hex : trErr x = 0
  · obtain ⟨p, rfl, hp, _⟩ := hx2 hex
    have HP := Lib.hid hp
    clear hx1 hx2 hp
    go_wp2_with fail
    refine HNY.out.mono ?_
    rintro e w2 ⟨hy1, hy2, b2⟩
    by_cases hey : trErr y = 0
    · obtain ⟨q, rfl, hq, _⟩ := hy2 hey
      have S2 := Lib.hid (show Six w w2 x y p q PS.none PS.none from ⟨NX1.out.below b2, NY1.out.below b2, HP.out.below b2, hq, B1.out.trans (b2.mono B1.out.size)⟩)
      have hxi := trErr_id hex
      have hyi := trErr_id hey
      clear hy1 hy2 hq b2 HNY NX1 NY1 B1 HP c0 c1 c2 c3 hex hey hb1
      go_wp2_with fail
      refine (pawake_calls w2).mono ?_
      rintro e w3 ⟨rfl, b3⟩
      have S3 := Lib.hid (S2.out.later b3)
      clear S2 b3
      obtain ⟨a, ha⟩ : ∃ a, a = partId x true := ⟨_, rfl⟩
      obtain ⟨b, hb⟩ : ∃ b, b = partId x false := ⟨_, rfl⟩
      obtain ⟨c, hc⟩ : ∃ c, c = partId y true := ⟨_, rfl⟩
      obtain ⟨d, hd⟩ : ∃ d, d = partId y false := ⟨_, rfl⟩
      have HA := Lib.hid ha
      have HB := Lib.hid hb
      have HC := Lib.hid hc
      have HD := Lib.hid hd
      simp only [partId, if_true, Bool.false_eq_true, if_false] at ha hb hc hd
      have HA2 := Lib.hid ha
      have HB2 := Lib.hid hb
      have HC2 := Lib.hid hc
      have HD2 := Lib.hid hd
      clear ha hb hc hd
      have hxi1 := hxi.1
      have hxi2 := hxi.2
      have hyi1 := hyi.1
      have hyi2 := hyi.2
      clear hxi hyi
      go_wp2_with fail
      refine (part_calls p x _ true w3 S3.out.pl hxi1 hxi2).mono ?_
      rintro e w4 ⟨rfl, b4⟩
      rw [← HA.out]
      have S4 := Lib.hid (S3.out.later b4)
      clear S3 b4
      go_wp2_with fail
      refine (part_calls p x _ false w4 S4.out.pl hxi1 hxi2).mono ?_
      rintro e w5 ⟨rfl, b5⟩
      rw [← HB.out]
      have n6 := (Blk.new w5 61 #[.int .i64 a, .int .i64 (partAcc x true), .int .i64 x.n, .bool true]).below (pbelow_one _ (.cells #[.int .i64 b, .int .i64 (partAcc x false), .int .i64 x.n, .bool false] 61))
      have n7 := Blk.new (w5.alloc (.cells #[.int .i64 a, .int .i64 (partAcc x true), .int .i64 x.n, .bool true] 61)) 61 #[.int .i64 b, .int .i64 (partAcc x false), .int .i64 x.n, .bool false]
      have S7 := Lib.hid ((S4.out.later b5).later ((pbelow_one w5 (.cells #[.int .i64 a, .int .i64 (partAcc x true), .int .i64 x.n, .bool true] 61)).trans ((pbelow_one _ (.cells #[.int .i64 b, .int .i64 (partAcc x false), .int .i64 x.n, .bool false] 61)).mono (by simp))))
      rw [World.size_alloc] at n7
      have N6 := Lib.hid n6
      have N7 := Lib.hid n7
      clear S4 b5 n6 n7
      go_wp2_with fail
      generalize (w5.alloc (Obj.cells #[.int .i64 a, .int .i64 (partAcc x true), .int .i64 x.n, .bool true] 61)).alloc (Obj.cells #[.int .i64 b, .int .i64 (partAcc x false), .int .i64 x.n, .bool false] 61) = W7 at N6 N7 S7 ⊢
      generalize w5.heap.size = q5 at N6 N7 ⊢
      refine (part_calls q y _ true W7 S7.out.ql hyi1 hyi2).mono ?_
      rintro e w8 ⟨rfl, b8⟩
      rw [← HC.out]
      have S8 := Lib.hid (S7.out.later b8)
      have N68 := Lib.hid (N6.out.below b8)
      have N78 := Lib.hid (N7.out.below b8)
      clear S7 b8 N6 N7
      go_wp2_with fail
      refine (part_calls q y _ false w8 S8.out.ql hyi1 hyi2).mono ?_
      rintro e w9 ⟨rfl, b9⟩
      rw [← HD.out]
      have ba := (pbelow_one w9 (.cells #[.int .i64 c, .int .i64 (partAcc y true), .int .i64 y.n, .bool true] 61)).trans ((pbelow_one _ (.cells #[.int .i64 d, .int .i64 (partAcc y false), .int .i64 y.n, .bool false] 61)).mono (by simp))
      have na := (Blk.new w9 61 #[.int .i64 c, .int .i64 (partAcc y true), .int .i64 y.n, .bool true]).below (pbelow_one _ (.cells #[.int .i64 d, .int .i64 (partAcc y false), .int .i64 y.n, .bool false] 61))
      have nb := Blk.new (w9.alloc (.cells #[.int .i64 c, .int .i64 (partAcc y true), .int .i64 y.n, .bool true] 61)) 61 #[.int .i64 d, .int .i64 (partAcc y false), .int .i64 y.n, .bool false]
      have Sb := Lib.hid ((S8.out.later b9).later ba)
      have N6b := Lib.hid ((N68.out.below b9).below ba)
      have N7b := Lib.hid ((N78.out.below b9).below ba)
      rw [World.size_alloc] at nb
      have NA := Lib.hid na
      have NB := Lib.hid nb
      clear S8 b9 ba na nb N68 N78
      go_upto_region 7 with fail
      generalize (w9.alloc (Obj.cells #[.int .i64 c, .int .i64 (partAcc y true), .int .i64 y.n, .bool true] 61)).alloc (Obj.cells #[.int .i64 d, .int .i64 (partAcc y false), .int .i64 y.n, .bool false] 61) = Wb at N6b N7b Sb NA NB ⊢
      generalize w9.heap.size = q9 at NA NB ⊢
      have x0 : Wb.cell? ⟨w.heap.size, 0, Option.none⟩ = some (.int .i64 x.id) := Sb.out.bx.cell 0 _ rfl
      have x3 : Wb.cell? ⟨w.heap.size, 3, Option.none⟩ = some (.int .i64 x.n) := Sb.out.bx.cell 3 _ rfl
      have y0 : Wb.cell? ⟨w.heap.size + 1, 0, Option.none⟩ = some (.int .i64 y.id) := Sb.out.by_.cell 0 _ rfl
      have a0 : Wb.cell? ⟨q5, 0, Option.none⟩ = some (.int .i64 a) := N6b.out.cell 0 _ rfl
      have a2 : Wb.cell? ⟨q5, 2, Option.none⟩ = some (.int .i64 x.n) := N6b.out.cell 2 _ rfl
      have a3 : Wb.cell? ⟨q5, 3, Option.none⟩ = some (.bool true) := N6b.out.cell 3 _ rfl
      have b0 : Wb.cell? ⟨q5 + 1, 0, Option.none⟩ = some (.int .i64 b) := N7b.out.cell 0 _ rfl
      have b2 : Wb.cell? ⟨q5 + 1, 2, Option.none⟩ = some (.int .i64 x.n) := N7b.out.cell 2 _ rfl
      have b3 : Wb.cell? ⟨q5 + 1, 3, Option.none⟩ = some (.bool false) := N7b.out.cell 3 _ rfl
      have c0 : Wb.cell? ⟨q9, 0, Option.none⟩ = some (.int .i64 c) := NA.out.cell 0 _ rfl
      have d0 : Wb.cell? ⟨q9 + 1, 0, Option.none⟩ = some (.int .i64 d) := NB.out.cell 0 _ rfl
      have BL := Lib.hid Sb.out.bl
      have ha := HA2.out
      have hb := HB2.out
      have hc := HC2.out
      have hd := HD2.out
      clear HA2 HB2 HC2 HD2 HA HB HC HD
      generalize x.id = i at *
      generalize y.id = j at *
      have la1 : 0 ≤ a := by omega
      have la2 : a ≤ 2000000 := by omega
      have lb1 : 0 ≤ b := by omega
      have lb2 : b ≤ 2000000 := by omega
      have k1 : (a == b) = false := by simp; omega
      have k2 : a % 2 = 1 := by omega
      have k3 : b % 2 = 0 := by omega
      have k4 : (a + 1) / 2 = i := by omega
      have k5 : (b + 1) / 2 = i := by omega
      have k6 : (a == c) = (i == j) := by
        by_cases h : i = j
        · have : a = c := by omega
          simp [h, this]
        · have : a ≠ c := by omega
          rw [beq_eq_false_iff_ne.2 this, beq_eq_false_iff_ne.2 h]
      have k7 : (b == d) = (i == j) := by
        by_cases h : i = j
        · have : b = d := by omega
          simp [h, this]
        · have : b ≠ d := by omega
          rw [beq_eq_false_iff_ne.2 this, beq_eq_false_iff_ne.2 h]
      have k8 : (a == d) = false := by simp; omega
      have k9 : (b == c) = false := by simp; omega
      have n1 : ¬ a = b := by omega
      have n8 : ¬ a = d := by omega
      have n9 : ¬ b = c := by omega
      clear ha hb hc hd Sb N6b N7b NA NB hxi1 hxi2 hyi1 hyi2
      go_wp2
      go_ret
      exact ⟨by simp [n8, n9], BL.out⟩
    · have h := hy1 hey
      subst h
      have hE := trErr y
      have hz : (trErr y == 0) = false := by simpa using hey
      obtain ⟨E, hEe⟩ : ∃ E, E = trErr y := ⟨_, rfl⟩
      rw [← hEe] at hz ⊢
      have hz0 : ¬ E = 0 := by simpa using hz
      have B2 := Lib.hid (B1.out.trans (b2.mono B1.out.size))
      clear hy1 hy2 b2 HNY NX1 NY1 B1 HP c0 c1 c2 c3 hex hey hb1 hEe hE
      go_wp2_with fail
      refine (pawake_calls w2).mono ?_
      rintro e w3 ⟨rfl, b3⟩
      have B3 := Lib.hid (B2.out.trans (b3.mono B2.out.size))
      clear B2 b3
      go_wp2_with fail
      refine (pawake_calls w3).mono ?_
      rintro e w4 ⟨rfl, b4⟩
      have B4 := Lib.hid (B3.out.trans (b4.mono B3.out.size))
      clear B3 b4
      go_wp2
      go_ret
      exact ⟨by simp, B4.out⟩
  · have h := hx1 hex
    subst h
    have hz : (trErr x == 0) = false := by simpa using hex
    obtain ⟨E, hEe⟩ : ∃ E, E = trErr x := ⟨_, rfl⟩
    rw [← hEe] at hz ⊢
    have hz0 : ¬ E = 0 := by simpa using hz
    clear hx1 hx2 hex hEe
    go_wp2_with fail
    refine HNY.out.mono ?_
    rintro e w2 ⟨hy1, hy2, b2⟩
    have B2 := Lib.hid (B1.out.trans (b2.mono B1.out.size))
    have hcase : (∃ q, e = .returned (.tuple #[.pointer (some ⟨q, 0, Option.none⟩), .int .i64 0])) ∨ ∃ F, (F == 0) = false ∧ e = .returned (.tuple #[.pointer Option.none, .int .i64 F]) := by
      by_cases hey : trErr y = 0
      · obtain ⟨q, hq, _⟩ := hy2 hey
        exact .inl ⟨q, hq⟩
      · exact .inr ⟨trErr y, by simpa using hey, hy1 hey⟩
    clear hy1 hy2 b2 HNY NX1 NY1 B1 c0 c1 c2 c3 hb1
    rcases hcase with ⟨q, rfl⟩ | ⟨F, hF, rfl⟩
    all_goals
      go_wp2_with fail
      refine (pawake_calls w2).mono ?_
      rintro e w3 ⟨rfl, b3⟩
      have B3 := Lib.hid (B2.out.trans (b3.mono B2.out.size))
      clear B2 b3
      go_wp2_with fail
      refine (pawake_calls w3).mono ?_
      rintro e w4 ⟨rfl, b4⟩
      have B4 := Lib.hid (B3.out.trans (b4.mono B3.out.size))
      clear B3 b4
      go_wp2
      go_ret
      exact ⟨by simp, B4.out⟩
theorem pledgeParts_walk (v0 : Value) (x : Tr) (v1 : Value) (y : Tr) (w : World) (w0 : v0 = trVal x) (w1 : v1 = trVal y) :
    Calls Try.prog 13 #[v0, v1] w fun e w' => e = .returned (.bool true) ∧ Below w.heap.size w w' := by
  subst w0 w1
  exact pledgeParts_core x y w
end Go.Proofs.Ytpacbbnnmopkjaa
