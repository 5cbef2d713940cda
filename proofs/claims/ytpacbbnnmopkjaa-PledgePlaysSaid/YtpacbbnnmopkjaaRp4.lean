/- The walks of moietyref16's Ready and Left. -/
import Derived.Test.YtpacbbnnmopkjaaRp3
set_option linter.unusedVariables false
set_option linter.unusedSimpArgs false
namespace Go.Proofs.Ytpacbbnnmopkjaa
open Go.RowKit

def sd0 : Sd := ⟨0, false, false, 0⟩
theorem vtOf_get (o : Option Sd) : (vtOf o).said = o.isSome ∧ (vtOf o).yes = (o.getD sd0).yes ∧ (vtOf o).t = (o.getD sd0).t ∧ (o.isSome = false → (o.getD sd0).yes = false ∧ (o.getD sd0).t = 0) := by
  cases o with
  | none => exact ⟨rfl, rfl, rfl, fun _ => ⟨rfl, rfl⟩⟩
  | some s => exact ⟨rfl, rfl, rfl, fun h => by cases h⟩
theorem rvote_calls0 (i f t n : Value) (A : Option Addr) (m c : Nat) (l : List Sd) (b : Bool) (w : World) (hm : m = l.length) (hA : Cells w A (sds l)) :
    Calls Try.prog 50 #[.agg #[i, f, t, n, .slice A m c], .bool b] w fun e w' => e = .returned (.tuple #[.agg #[.int .i64 ((rvote l b).getD sd0).kind, .bool ((rvote l b).getD sd0).pays, .bool ((rvote l b).getD sd0).yes, .int .i64 ((rvote l b).getD sd0).t], .bool (rvote l b).isSome]) ∧ Below w.heap.size w w' :=
  rvote_calls i f t n A m c l b w hm hA

set_option maxHeartbeats 4000000 in
set_option maxRecDepth 100000 in
theorem rready_calls (i f t n : Int) (A : Option Addr) (m c : Nat) (l : List Sd) (w : World) (hm : m = l.length) (hA : Cells w A (sds l)) :
    Calls Try.prog 37 #[.agg #[.int .i64 i, .int .i64 f, .int .i64 t, .int .i64 n, .slice A m c]] w fun e w' => e = .returned (.tuple #[.int .i64 (rready l).1, .bool (rready l).2]) ∧ Below w.heap.size w w' := by
  subst hm
  obtain ⟨W0, hW0⟩ : ∃ W0, W0 = w.alloc (.cells #[.int .i64 i, .int .i64 f, .int .i64 t, .int .i64 n, .slice A l.length c] 65) := ⟨_, rfl⟩
  have b0 : Below w.heap.size w W0 := by rw [hW0]; exact pbelow_one _ _
  have n2 : Blk W0 w.heap.size 65 #[.int .i64 i, .int .i64 f, .int .i64 t, .int .i64 n, .slice A l.length c] := by rw [hW0]; exact Blk.new w 65 _
  have HA := Lib.hid (hA.below b0)
  have HW0 := Lib.hid hW0
  have B0 := Lib.hid b0
  have N2 := Lib.hid n2
  have HF := Lib.hid (rfate_calls (.int .i64 i) (.int .i64 f) (.int .i64 t) (.int .i64 n) A l.length c l W0 rfl HA.out)
  obtain ⟨q1, q2, q3, q4⟩ := vtOf_get (rvote l true)
  obtain ⟨r1, r2, r3, r4⟩ := vtOf_get (rvote l false)
  have hrd : rready l = if (rfate l).1 ≠ 0 ∨ (((rvote l true).getD sd0).yes && ((rvote l false).getD sd0).yes) = false then (0, false) else (max ((rvote l true).getD sd0).t ((rvote l false).getD sd0).t, true) := by
    unfold rready; rw [q2, q3, r2, r3]
  have HRD := Lib.hid hrd
  have Q4 := Lib.hid q4
  have R4 := Lib.hid r4
  clear hA b0 n2 hW0 q1 q2 q3 q4 r1 r2 r3 r4 hrd
  go_enter Try.func37, Try.ntmps37
  go_wp2_with fail
  rw [← HW0.out]
  clear HW0
  refine HF.out.mono ?_
  rintro e w1 ⟨rfl, b1⟩
  have N2 := Lib.hid (N2.out.below b1)
  have HA := Lib.hid (HA.out.below b1)
  have B0 := Lib.hid (B0.out.trans (b1.mono B0.out.size))
  clear b1 HF
  have c0 : w1.cell? ⟨w.heap.size, 0, Option.none⟩ = some (.int .i64 i) := N2.out.cell 0 _ rfl
  have c1 : w1.cell? ⟨w.heap.size, 1, Option.none⟩ = some (.int .i64 f) := N2.out.cell 1 _ rfl
  have c2 : w1.cell? ⟨w.heap.size, 2, Option.none⟩ = some (.int .i64 t) := N2.out.cell 2 _ rfl
  have c3 : w1.cell? ⟨w.heap.size, 3, Option.none⟩ = some (.int .i64 n) := N2.out.cell 3 _ rfl
  have c4 : w1.cell? ⟨w.heap.size, 4, Option.none⟩ = some (.slice A l.length c) := N2.out.cell 4 _ rfl
  go_wp2_with fail
  refine (rvote_calls0 _ _ _ _ A l.length c l true w1 rfl HA.out).mono ?_
  rintro e w2 ⟨rfl, b2⟩
  obtain ⟨a, ha⟩ : ∃ a, a = (rvote l true).getD sd0 := ⟨_, rfl⟩
  obtain ⟨ok, hok⟩ : ∃ a, a = (rvote l true).isSome := ⟨_, rfl⟩
  rw [← ha, ← hok] at Q4
  rw [← ha] at HRD
  rw [← ha, ← hok]
  have b3 := b2.alloc b2.size (.cells #[.int .i64 a.kind, .bool a.pays, .bool a.yes, .int .i64 a.t] 67)
  have n6 := Blk.new w2 67 #[.int .i64 a.kind, .bool a.pays, .bool a.yes, .int .i64 a.t]
  have N2 := Lib.hid (N2.out.below b3)
  have HA := Lib.hid (HA.out.below b3)
  have B0 := Lib.hid (B0.out.trans (b3.mono B0.out.size))
  have N6 := Lib.hid n6
  clear b2 b3 n6 c0 c1 c2 c3 c4 ha hok
  go_upto_region 3 with fail
  generalize w2.alloc (Obj.cells #[.int .i64 a.kind, .bool a.pays, .bool a.yes, .int .i64 a.t] 67) = W3 at N2 HA B0 N6 ⊢
  generalize w2.heap.size = b6 at N6 ⊢
  have c0 : W3.cell? ⟨w.heap.size, 0, Option.none⟩ = some (.int .i64 i) := N2.out.cell 0 _ rfl
  have c1 : W3.cell? ⟨w.heap.size, 1, Option.none⟩ = some (.int .i64 f) := N2.out.cell 1 _ rfl
  have c2 : W3.cell? ⟨w.heap.size, 2, Option.none⟩ = some (.int .i64 t) := N2.out.cell 2 _ rfl
  have c3 : W3.cell? ⟨w.heap.size, 3, Option.none⟩ = some (.int .i64 n) := N2.out.cell 3 _ rfl
  have c4 : W3.cell? ⟨w.heap.size, 4, Option.none⟩ = some (.slice A l.length c) := N2.out.cell 4 _ rfl
  go_wp2_with fail
  refine (rvote_calls0 _ _ _ _ A l.length c l false W3 rfl HA.out).mono ?_
  rintro e w4 ⟨rfl, b4⟩
  obtain ⟨b, hb⟩ : ∃ a, a = (rvote l false).getD sd0 := ⟨_, rfl⟩
  obtain ⟨is, his⟩ : ∃ a, a = (rvote l false).isSome := ⟨_, rfl⟩
  rw [← hb, ← his] at R4
  rw [← hb] at HRD
  rw [← hb, ← his]
  have b5 := b4.alloc b4.size (.cells #[.int .i64 b.kind, .bool b.pays, .bool b.yes, .int .i64 b.t] 67)
  have n8 := Blk.new w4 67 #[.int .i64 b.kind, .bool b.pays, .bool b.yes, .int .i64 b.t]
  have B0 := Lib.hid (B0.out.trans (b5.mono B0.out.size))
  have N6 := Lib.hid (N6.out.below b5)
  have N8 := Lib.hid n8
  clear b4 b5 n8 c0 c1 c2 c3 c4 hb his
  go_upto_region 4 with fail
  generalize w4.alloc (Obj.cells #[.int .i64 b.kind, .bool b.pays, .bool b.yes, .int .i64 b.t] 67) = W5 at B0 N6 N8 ⊢
  generalize w4.heap.size = b8 at N8 ⊢
  have x2 : W5.cell? ⟨b6, 2, Option.none⟩ = some (.bool a.yes) := N6.out.cell 2 _ rfl
  have x3 : W5.cell? ⟨b6, 3, Option.none⟩ = some (.int .i64 a.t) := N6.out.cell 3 _ rfl
  have y2 : W5.cell? ⟨b8, 2, Option.none⟩ = some (.bool b.yes) := N8.out.cell 2 _ rfl
  have y3 : W5.cell? ⟨b8, 3, Option.none⟩ = some (.int .i64 b.t) := N8.out.cell 3 _ rfl
  obtain ⟨F, hF⟩ : ∃ F, F = (rfate l).1 := ⟨_, rfl⟩
  rw [← hF] at HRD ⊢
  generalize (rfate l).2 = G at *
  obtain ⟨ak, ap, ay, at_⟩ := a
  obtain ⟨bk, bp, by_, bt⟩ := b
  simp only at x2 x3 y2 y3
  clear hF N2 HA N6 N8
  by_cases hf : F = 0
  · have hacase : ok = false ∧ ay = false ∨ ok = true ∧ ay = false ∨ ok = true ∧ ay = true := by
      cases ok
      · exact .inl ⟨rfl, (Q4.out rfl).1⟩
      · cases ay
        · exact .inr (.inl ⟨rfl, rfl⟩)
        · exact .inr (.inr ⟨rfl, rfl⟩)
    have hbcase : is = false ∧ by_ = false ∨ is = true ∧ by_ = false ∨ is = true ∧ by_ = true := by
      cases is
      · exact .inl ⟨rfl, (R4.out rfl).1⟩
      · cases by_
        · exact .inr (.inl ⟨rfl, rfl⟩)
        · exact .inr (.inr ⟨rfl, rfl⟩)
    subst hf
    clear Q4 R4
    rcases hacase with ⟨rfl, rfl⟩ | ⟨rfl, rfl⟩ | ⟨rfl, rfl⟩ <;> rcases hbcase with ⟨rfl, rfl⟩ | ⟨rfl, rfl⟩ | ⟨rfl, rfl⟩
    case inr.inr.inr.inr =>
      by_cases hlt : bt < at_
      · have hr := HRD.out
        rw [if_neg (by simp)] at hr
        simp only at hr
        rw [show max at_ bt = at_ by omega] at hr
        have HR := Lib.hid hr
        clear hr
        go_wp2
        go_ret2
        exact ⟨by rw [HR.out]; rfl, B0.out⟩
      · have hr := HRD.out
        rw [if_neg (by simp)] at hr
        simp only at hr
        rw [show max at_ bt = bt by omega] at hr
        have HR := Lib.hid hr
        clear hr
        go_wp2
        go_ret2
        exact ⟨by rw [HR.out]; rfl, B0.out⟩
    all_goals
      have hr := HRD.out
      rw [if_pos (.inr rfl)] at hr
      have HR := Lib.hid hr
      clear hr
      go_wp2
      go_ret2
      exact ⟨by rw [HR.out]; rfl, B0.out⟩
  · have hr := HRD.out
    rw [if_pos (.inl hf)] at hr
    have HR := Lib.hid hr
    have hfb : (F == 0) = false := by simpa using hf
    clear hr HRD Q4 R4
    go_wp2
    go_ret2
    exact ⟨by rw [HR.out]; rfl, B0.out⟩
end Go.Proofs.Ytpacbbnnmopkjaa
