/- The reference's disk: Act, made. -/
import Derived.Test.YtimjadjopemefaaRd6
set_option linter.unusedVariables false
set_option linter.unusedSimpArgs false
namespace Go.Proofs.Ytimjadjopemefaa
open Go.RowKit

set_option maxHeartbeats 4000000 in
set_option maxRecDepth 100000 in
/-- An act that is made. -/
theorem ract_made (A B : Option Addr) (c d : Nat) (D : DS) (kind : Nat) (i : Nat) (s : List UInt8) (w : World) (hl : D.logs.length ≤ 16) (hk : D.keep.length ≤ 1000000) (hsm : ∀ j (h : j < D.logs.length), D.logs[j].1.length ≤ 4194304 ∧ D.logs[j].2 ≤ D.logs[j].1.length) (hs : s.length ≤ 1000000)
    (hA : Cells w A (lgs D.logs)) (hB : Cells w B (ints D.keep)) (hi : i < D.logs.length) (hdn : D.down = false) (hkd : kind = 0 ∨ kind = 1 ∧ s = [] ∨ kind = 2) (hbg : ¬ 4194304 < actSz D kind (i : Int) s) (har : D.armed ≠ 1) (hac : D.acts < 1000000000) (hab : 0 ≤ D.armed) (hab2 : D.armed ≤ 9223372036854775807) :
    Calls Try.prog 75 #[.agg #[.slice A D.logs.length c, .int .i64 (D.acts : Int), .bool D.down, .int .i64 D.armed, .slice B D.keep.length d], .int .i64 (kind : Int), .int .i64 (i : Int), .string (str s)] w (RActed w A B (D.act (i : Int) (actSz D kind (i : Int) s) (actF kind s)) (D.actErr (i : Int) (actSz D kind (i : Int) s))) := by
  obtain ⟨W0, hW0, b0, sz, n0, n1⟩ := rd_boxes w #[.slice A D.logs.length c, .int .i64 (D.acts : Int), .bool D.down, .int .i64 D.armed, .slice B D.keep.length d]
  obtain ⟨x, hx⟩ : ∃ x, x = D.logs[i] := ⟨_, rfl⟩
  obtain ⟨p, hp⟩ : ∃ p, p = x.1.take x.2 := ⟨_, rfl⟩
  obtain ⟨r, hrr⟩ : ∃ r, r = x.1.drop x.2 := ⟨_, rfl⟩
  obtain ⟨ad, rfl, hc0⟩ := (hA.below b0).get (i * 2) _ (lgs_get _ i hi).1
  obtain ⟨ad', e, hc1⟩ := (hA.below b0).get (i * 2 + 1) _ (lgs_get _ i hi).2
  cases e
  rw [add_next] at hc1
  rw [← hx, ← hp] at hc0
  rw [← hx, ← hrr] at hc1
  have hsx := hsm i hi
  rw [← hx] at hsx
  have hpl : p.length = x.2 := by rw [hp]; simp; omega
  have hpr : p ++ r = x.1 := by rw [hp, hrr, List.take_append_drop]
  have hrl : p.length + r.length = x.1.length := by rw [← hpr, List.length_append]
  have HA := Lib.hid hA
  have HB := Lib.hid hB
  have HW0 := Lib.hid hW0
  have B0 := Lib.hid b0
  have N0 := Lib.hid n0
  have N1 := Lib.hid n1
  have SZ := Lib.hid sz
  have HL := Lib.hid hl
  have HK := Lib.hid hk
  have HSM := Lib.hid hsm
  have HSL := Lib.hid hs
  have HX := Lib.hid hx
  have HPL := Lib.hid hpl
  have HPR := Lib.hid hpr
  have HRL := Lib.hid hrl
  have HSX := Lib.hid hsx
  have HDN := Lib.hid hdn
  have hk3 := hkd
  obtain ⟨Z, hZ⟩ : ∃ Z, Z = actSz D kind (i : Int) s := ⟨_, rfl⟩
  obtain ⟨F, hF0⟩ : ∃ F, F = actF kind s := ⟨_, rfl⟩
  rw [← hZ] at hbg
  rw [← hZ, ← hF0]
  have HBG := Lib.hid hbg
  have HAR := Lib.hid har
  have haB : (D.armed == 1) = false := by simpa using har
  have haD : decide (D.armed = 1) = false := by simpa using har
  clear hbg har
  have HZE := Lib.hid hZ
  have HFE := Lib.hid hF0
  clear hZ hF0
  clear hA hB hW0 b0 n0 n1 sz hl hk hsm hs hx hp hrr hpl hpr hrl hsx hdn hkd
  go_enter Try.func75, Try.ntmps75
  go_upto_region 1 with fail
  rw [← HW0.out]
  have n0 := N0.out
  rw [HDN.out] at n0
  obtain ⟨⟨q0, q1, q2, q3, q4⟩, _⟩ := blk5 n0
  have hn0 : ¬ (i : Int) < 0 := by omega
  have hn1 : ¬ (D.logs.length : Int) ≤ (i : Int) := by omega
  have hn2 : ¬ D.logs.length ≤ i := by omega
  clear n0
  go_upto_region 5 with fail
  go_upto_region 6 with fail
  have n5 := Blk.new W0 135 #[.string (str p), .string (str r)]
  have b5 := below_one W0 (.cells #[.string (str p), .string (str r)] 135)
  generalize W0.alloc (.cells #[.string (str p), .string (str r)] 135) = W1 at n5 b5 ⊢
  have l0 := n5.cell 0 _ rfl
  have l1 := n5.cell 1 _ rfl
  have m0 := n5.free 0 none
  have m1 := n5.free 1 none
  simp only [List.getElem_toArray, List.getElem_cons_zero, List.getElem_cons_succ] at l0 l1
  have hap : D.appSize (i : Int) s = (s.length : Int) + (x.1.length : Int) := by
    unfold DS.appSize
    rw [if_pos (DS.has_iff.2 ⟨i, rfl, hi⟩), DS.log_at hi, ← HX.out]
  have HAP := Lib.hid hap
  have N5 := Lib.hid n5
  have B5 := Lib.hid b5
  clear hap n5 b5
  rcases hk3 with rfl | ⟨rfl, rfl⟩ | rfl
  case' inl =>
    have kap : str r ++ str s = str (r ++ s) := str_append r s
    have ksz : ¬ 9223372036854775807 < (str r).size + (str s).size := by rw [str_size, str_size]; have := HRL.out; have := HSX.out; have := HSL.out; omega
    go_upto_region 12 with fail
    obtain ⟨P, hP⟩ : ∃ P, P = p := ⟨_, rfl⟩
    obtain ⟨R, hR⟩ : ∃ R, R = r ++ s := ⟨_, rfl⟩
    have h3 : Blk (W1.setCell ⟨W0.heap.size, 1, none⟩ (.string (str (r ++ s)))) W0.heap.size 135 #[.string (str P), .string (str R)] := by rw [hP, hR]; simpa using N5.out.set 1 (.string (str (r ++ s)))
    have u3 : Upd (fun k => k = W0.heap.size) W1 (W1.setCell ⟨W0.heap.size, 1, none⟩ (.string (str (r ++ s)))) := (Upd.refl (fun k => k = W0.heap.size) W1).set ⟨W0.heap.size, 1, none⟩ _ (fun _ => rfl)
    generalize W1.setCell ⟨W0.heap.size, 1, none⟩ (.string (str (r ++ s))) = W3 at h3 u3 ⊢
    have hF : P.length = (F x).2 ∧ P ++ R = (F x).1 := by rw [HFE.out]; exact ⟨by rw [hP]; exact HPL.out, by rw [hP, hR, ← List.append_assoc, HPR.out]; rfl⟩
    have hS : (4194304 < Z ↔ 4194304 < P.length + R.length) := by
      rw [HZE.out]
      show 4194304 < D.appSize (i : Int) s ↔ _
      rw [HAP.out, hP, hR, List.length_append]
      have := HRL.out
      omega
    have hPR : P.length + R.length ≤ 16000000 := by rw [hP, hR, List.length_append]; have := HRL.out; have := HSX.out; have := HSL.out; omega
    clear hP hR kap ksz
  case' inr.inl =>
    have kap : str p ++ str r = str (p ++ r) := str_append p r
    have ksz : ¬ 9223372036854775807 < (str p).size + (str r).size := by rw [str_size, str_size]; have := HRL.out; have := HSX.out; omega
    go_upto_region 12 with fail
    obtain ⟨P, hP⟩ : ∃ P, P = p ++ r := ⟨_, rfl⟩
    obtain ⟨R, hR⟩ : ∃ R : List UInt8, R = [] := ⟨_, rfl⟩
    have h3 : Blk ((W1.setCell ⟨W0.heap.size, 0, none⟩ (.string (str (p ++ r)))).setCell ⟨W0.heap.size, 1, none⟩ (.string ⟨#[]⟩)) W0.heap.size 135 #[.string (str P), .string (str R)] := by rw [hP, hR]; have q := (N5.out.set 0 (.string (str (p ++ r)))).set 1 (.string (str [])); simp at q; exact q
    have u3 : Upd (fun k => k = W0.heap.size) W1 ((W1.setCell ⟨W0.heap.size, 0, none⟩ (.string (str (p ++ r)))).setCell ⟨W0.heap.size, 1, none⟩ (.string ⟨#[]⟩)) := ((Upd.refl (fun k => k = W0.heap.size) W1).set ⟨W0.heap.size, 0, none⟩ _ (fun _ => rfl)).set ⟨W0.heap.size, 1, none⟩ _ (fun _ => rfl)
    generalize (W1.setCell ⟨W0.heap.size, 0, none⟩ (.string (str (p ++ r)))).setCell ⟨W0.heap.size, 1, none⟩ (.string ⟨#[]⟩) = W3 at h3 u3 ⊢
    have hF : P.length = (F x).2 ∧ P ++ R = (F x).1 := by rw [HFE.out]; exact ⟨by rw [hP, HPR.out]; rfl, by rw [hP, hR, List.append_nil, HPR.out]; rfl⟩
    have hS : (4194304 < Z ↔ 4194304 < P.length + R.length) := by
      rw [HZE.out]
      show (4194304 : Int) < 0 ↔ _
      rw [hP, hR, List.length_append]
      have := HRL.out
      have := HSX.out
      simp
      omega
    have hPR : P.length + R.length ≤ 16000000 := by rw [hP, hR, List.length_append]; have := HRL.out; have := HSX.out; simp; omega
    clear hP hR kap ksz
  case' inr.inr =>
    go_upto_region 12 with fail
    obtain ⟨P, hP⟩ : ∃ P, P = s := ⟨_, rfl⟩
    obtain ⟨R, hR⟩ : ∃ R : List UInt8, R = [] := ⟨_, rfl⟩
    have h3 : Blk ((W1.setCell ⟨W0.heap.size, 0, none⟩ (.string (str s))).setCell ⟨W0.heap.size, 1, none⟩ (.string ⟨#[]⟩)) W0.heap.size 135 #[.string (str P), .string (str R)] := by rw [hP, hR]; have q := (N5.out.set 0 (.string (str s))).set 1 (.string (str [])); simp at q; exact q
    have u3 : Upd (fun k => k = W0.heap.size) W1 ((W1.setCell ⟨W0.heap.size, 0, none⟩ (.string (str s))).setCell ⟨W0.heap.size, 1, none⟩ (.string ⟨#[]⟩)) := ((Upd.refl (fun k => k = W0.heap.size) W1).set ⟨W0.heap.size, 0, none⟩ _ (fun _ => rfl)).set ⟨W0.heap.size, 1, none⟩ _ (fun _ => rfl)
    generalize (W1.setCell ⟨W0.heap.size, 0, none⟩ (.string (str s))).setCell ⟨W0.heap.size, 1, none⟩ (.string ⟨#[]⟩) = W3 at h3 u3 ⊢
    have hF : P.length = (F x).2 ∧ P ++ R = (F x).1 := by rw [HFE.out]; exact ⟨by rw [hP]; rfl, by rw [hP, hR, List.append_nil]; rfl⟩
    have hS : (4194304 < Z ↔ 4194304 < P.length + R.length) := by
      rw [HZE.out]
      show (4194304 : Int) < (s.length : Int) ↔ _
      rw [hP, hR]
      simp
      omega
    have hPR : P.length + R.length ≤ 16000000 := by rw [hP, hR]; have := HSL.out; simp; omega
    clear hP hR
  all_goals
    have b3 := B5.out.trans (u3.below B5.out.size (fun k hk e => by omega))
    have hz := SZ.out
    have N03 := Lib.hid (N0.out.below b3)
    have N13 := Lib.hid (N1.out.below b3)
    have BW3 := Lib.hid (B0.out.trans (b3.mono B0.out.size))
    have L3 := Lib.hid h3
    have HZ3 := Lib.hid b3.size
    have HF := Lib.hid hF
    have HS := Lib.hid hS
    have hPs : (str P).size = P.length := str_size P
    have hRs : (str R).size = R.length := str_size R
    clear b3 hz h3 u3 hF hS q0 q1 q2 q3 q4 l0 l1 m0 m1 hc0 hc1 N5 B5 N0 N1 B0 HW0
    have n03 := N03.out
    rw [HDN.out] at n03
    obtain ⟨⟨q0, q1, q2, q3, q4⟩, y0, y1, y2, y3, y4⟩ := blk5 n03
    clear n03
    have l0 := L3.out.cell 0 _ rfl
    have l1 := L3.out.cell 1 _ rfl
    simp only [List.getElem_toArray, List.getElem_cons_zero, List.getElem_cons_succ] at l0 l1
    have hha : D.has (i : Int) = true := DS.has_iff.2 ⟨i, rfl, hi⟩
    have hbig : ¬ 4194304 < P.length + R.length := fun h => HBG.out (HS.out.2 h)
    have he : D.actErr (i : Int) Z = 0 := by
      unfold DS.actErr
      rw [if_pos hha, if_neg (by rw [HDN.out]; decide), if_neg HBG.out, if_neg HAR.out]
    have hf : D.act (i : Int) Z F = { D.pre with logs := D.logs.set i (F x) } := by
      unfold DS.act
      rw [if_pos he, DS.log_at hi, HX.out]
      rfl
    have HE := Lib.hid he
    have HFF := Lib.hid hf
    clear he hf
    have hrc := rcopy_calls (some ad) B c d D W3 HL.out HK.out (HA.out.below BW3.out) (HB.out.below BW3.out)
    rw [HDN.out] at hrc
    have HRC := Lib.hid hrc
    clear hrc
    go_wp2_with fail
    refine HRC.out.mono ?_
    rintro e w4 ⟨A4, c4, B4, d4, rfl, rl, rk, bl4⟩
    clear q0 q1 q2 q3 q4 y0 y1 y2 y3 y4 l0 l1
    obtain ⟨ga, cap, cur, e4, hga, hgb, _⟩ := rl.blk (by omega)
    cases e4
    have n4 := N03.out.below bl4
    rw [HDN.out] at n4
    obtain ⟨⟨q0, q1, q2, q3, q4⟩, y0, y1, y2, y3, y4⟩ := blk5 n4
    obtain ⟨E5, U5⟩ := five_sets n4 (.slice (some ⟨ga, 0, none⟩) D.logs.length c4) (.int .i64 (D.acts : Int)) (.bool false) (.int .i64 D.armed) (.slice B4 D.keep.length d4)
    obtain ⟨W5, hW5⟩ : ∃ W5, W5 = (((((w4.setCell ⟨w.heap.size, 0, Option.none⟩ (.slice (some ⟨ga, 0, none⟩) D.logs.length c4)).setCell ⟨w.heap.size, 1, Option.none⟩ (.int .i64 (D.acts : Int))).setCell ⟨w.heap.size, 2, Option.none⟩ (.bool false)).setCell ⟨w.heap.size, 3, Option.none⟩ (.int .i64 D.armed)).setCell ⟨w.heap.size, 4, Option.none⟩ (.slice B4 D.keep.length d4)) := ⟨_, rfl⟩
    rw [← hW5] at E5 U5
    have hz := SZ.out
    have hz3 := HZ3.out
    have N5' := Lib.hid E5
    have N15 := Lib.hid ((N13.out.below bl4).upd U5 (by omega))
    have L5 := Lib.hid ((L3.out.below bl4).upd U5 (by omega))
    have R5 := Lib.hid (rl.upd U5 (fun k e _ hk => by have := (rl.lt k e).1; omega))
    have K5 := Lib.hid (rk.upd U5 (fun k e _ hk => by have := (rk.lt k e).1; omega))
    have b4 := BW3.out.trans (bl4.mono BW3.out.size)
    have BW5 := Lib.hid (b4.trans (U5.below b4.size (fun i hi e => by omega)))
    have HZ5 := Lib.hid (show W0.heap.size ≤ W5.heap.size ∧ W3.heap.size ≤ ga from ⟨Nat.le_trans hz3 (Nat.le_trans bl4.size U5.size), hga⟩)
    have HW5 := Lib.hid hW5
    clear hW5 E5 U5 hz hz3 rl rk bl4 b4 n4 hga hgb
    go_upto_region 17 with fail
    rw [← HW5.out]
    clear HW5 q0 q1 q2 q3 q4 y0 y1 y2 y3 y4
    obtain ⟨⟨q0, q1, q2, q3, q4⟩, y0, y1, y2, y3, y4⟩ := blk5 N5'.out
    by_cases h1 : 1 < D.armed
    case' pos =>
      have n6 : Blk (W5.setCell ⟨w.heap.size, 3, none⟩ (.int .i64 (D.armed - 1))) w.heap.size 70 #[.slice (some ⟨ga, 0, none⟩) D.logs.length c4, .int .i64 (D.acts : Int), .bool false, .int .i64 (D.armed - 1), .slice B4 D.keep.length d4] := by simpa using N5'.out.set 3 (.int .i64 (D.armed - 1))
      have u6 : Upd (fun k => k = w.heap.size) W5 (W5.setCell ⟨w.heap.size, 3, none⟩ (.int .i64 (D.armed - 1))) := (Upd.refl (fun k => k = w.heap.size) W5).set ⟨w.heap.size, 3, none⟩ _ (fun _ => rfl)
      have N6 := Lib.hid n6
      have U6 := Lib.hid u6
      clear n6 u6
      have HAV := Lib.hid (show D.pre.armed = D.armed - 1 by simp [DS.pre, h1])
      go_upto_region 19 with fail
      generalize W5.setCell ⟨w.heap.size, 3, none⟩ (.int .i64 (D.armed - 1)) = W6 at N6 U6 ⊢
      generalize D.armed - 1 = AV at N6 HAV ⊢
    case' neg =>
      have N6 := N5'
      have U6 := Lib.hid (Upd.refl (fun k => k = w.heap.size) W5)
      have HAV := Lib.hid (show D.pre.armed = D.armed by simp [DS.pre, h1])
      go_upto_region 19 with fail
      obtain ⟨AV, hAV⟩ : ∃ AV, AV = D.armed := ⟨_, rfl⟩
      rw [← hAV] at N6 HAV
      clear hAV
      obtain ⟨W6, hW6⟩ : ∃ W6, W6 = W5 := ⟨_, rfl⟩
      rw [← hW6]
      rw [← hW6] at N6
      have U6 : Hid (Upd (fun k => k = w.heap.size) W5 W6) := by rw [hW6]; exact U6
      clear hW6
    all_goals
      clear q0 q1 q2 q3 q4 y0 y1 y2 y3 y4 h1
      obtain ⟨⟨q0, q1, q2, q3, q4⟩, y0, y1, y2, y3, y4⟩ := blk5 N6.out
      have n7 : Blk (W6.setCell ⟨w.heap.size, 1, none⟩ (.int .i64 ((D.acts : Int) + 1))) w.heap.size 70 #[.slice (some ⟨ga, 0, none⟩) D.logs.length c4, .int .i64 ((D.acts : Int) + 1), .bool false, .int .i64 AV, .slice B4 D.keep.length d4] := by simpa using N6.out.set 1 (.int .i64 ((D.acts : Int) + 1))
      have u7 := U6.out.set ⟨w.heap.size, 1, none⟩ (.int .i64 ((D.acts : Int) + 1)) (fun _ => rfl)
      obtain ⟨W7, hW7⟩ : ∃ W7, W7 = W6.setCell ⟨w.heap.size, 1, none⟩ (.int .i64 ((D.acts : Int) + 1)) := ⟨_, rfl⟩
      rw [← hW7] at n7 u7
      have HW7 := Lib.hid hW7
      have hz := SZ.out
      have hz5 := HZ5.out
      have hz3 := HZ3.out
      have N7 := Lib.hid n7
      have r7 := R5.out.upd u7 (fun k e _ hk => by have := (R5.out.lt k e).1; omega)
      have K7 := Lib.hid (K5.out.upd u7 (fun k e _ hk => by have := (K5.out.lt k e).1; omega))
      have l7 := L5.out.upd u7 (by omega)
      have N17 := Lib.hid (N15.out.upd u7 (by omega))
      have BW7 := Lib.hid (BW5.out.trans (u7.below BW5.out.size (fun i hi e => by omega)))
      have HZ7 := Lib.hid u7.size
      clear hW7 n7 u7
      go_upto_region 20 with fail
      rw [← HW7.out]
      clear HW7 q0 q1 q2 q3 q4 y0 y1 y2 y3 y4
      obtain ⟨⟨q0, q1, q2, q3, q4⟩, _⟩ := blk5 N7.out
      have l0 := l7.cell 0 _ rfl
      have l1 := l7.cell 1 _ rfl
      simp only [List.getElem_toArray, List.getElem_cons_zero, List.getElem_cons_succ] at l0 l1
      obtain ⟨A8, c8, e8, _, _, hcl, _⟩ := r7.cells (by rw [lgs_length]; have := HL.out; omega)
      cases e8
      obtain ⟨ad8, e, hc0⟩ := hcl.get (i * 2) _ (lgs_get _ i hi).1
      cases e
      obtain ⟨ad9, e, hc1⟩ := hcl.get (i * 2 + 1) _ (lgs_get _ i hi).2
      cases e
      have hadd : ∀ j, (⟨ga, 0, none⟩ : Addr).add j = ⟨ga, j, none⟩ := fun j => by unfold Addr.add; split <;> simp_all
      rw [hadd] at hc0 hc1
      obtain ⟨ga', cap', cur', e, hga, hgb, _⟩ := r7.blk (by omega)
      cases e
      have yf0 := hgb.free (i * 2) none
      have yf1 := hgb.free (i * 2 + 1) none
      have hP : (F x).1.take (F x).2 = P := by rw [← HF.out.2, ← HF.out.1, List.take_left]
      have hR : (F x).1.drop (F x).2 = R := by rw [← HF.out.2, ← HF.out.1, List.drop_left]
      have r8 := r7.set2 (k := i) hi (.string (str P)) (.string (str R))
      rw [← hP, ← hR, lgs_set _ _ _ hi, hP, hR] at r8
      have u8 : Upd (fun k => k = ga) W7 ((W7.setCell ⟨ga, i * 2, none⟩ (.string (str P))).setCell ⟨ga, i * 2 + 1, none⟩ (.string (str R))) := ((Upd.refl (fun k => k = ga) W7).set ⟨ga, i * 2, none⟩ _ (fun _ => rfl)).set ⟨ga, i * 2 + 1, none⟩ _ (fun _ => rfl)
      obtain ⟨W8, hW8⟩ : ∃ W8, W8 = (W7.setCell ⟨ga, i * 2, none⟩ (.string (str P))).setCell ⟨ga, i * 2 + 1, none⟩ (.string (str R)) := ⟨_, rfl⟩
      rw [← hW8] at r8 u8
      have HW8 := Lib.hid hW8
      have hdf : ∀ k, (Value.slice B4 D.keep.length d4).ownBlock = some k → k ≠ ga := fun k e h => by
        have h1 := K7.out.typed k e
        have h2 := r7.typed ga rfl
        subst h
        obtain ⟨_, _, h1⟩ := h1
        obtain ⟨_, _, h2⟩ := h2
        rw [h1] at h2
        simp at h2
      have N8 := Lib.hid (N7.out.upd u8 (by omega))
      have N18 := Lib.hid (N17.out.upd u8 (by omega))
      have K8 := Lib.hid (K7.out.upd u8 (fun k e _ h => hdf k e h))
      have R8 := Lib.hid r8
      have BW8 := Lib.hid (BW7.out.trans (u8.below BW7.out.size (fun k hk e => by omega)))
      clear hW8 r8 u8 hdf hP hR r7 l7 hcl hga hgb hadd hz hz3 hz5
      go_upto_region 21 with fail
      rw [← HW8.out]
      clear HW8 q0 q1 q2 q3 q4 l0 l1 hc0 hc1 yf0 yf1
      obtain ⟨⟨q0, q1, q2, q3, q4⟩, _⟩ := blk5 N8.out
      obtain ⟨⟨p0, p1, p2, p3, p4⟩, g0, g1, g2, g3, g4⟩ := blk5 N18.out
      obtain ⟨E10, U10⟩ := five_sets N18.out (.slice (some ⟨ga, 0, none⟩) D.logs.length c4) (.int .i64 ((D.acts : Int) + 1)) (.bool false) (.int .i64 AV) (.slice B4 D.keep.length d4)
      have H10 := Lib.hid E10
      have UU10 := Lib.hid U10
      clear E10 U10
      go_wp2_with fail
      try simp only [Exit.inBlock, Exit.then]
      refine bodyPost_ret (results_rd2 rfl rfl (H10.out.cell 0 _ rfl) (H10.out.cell 1 _ rfl) (H10.out.cell 2 _ rfl) (H10.out.cell 3 _ rfl) (H10.out.cell 4 _ rfl)) rfl ?_
      rw [HE.out, HFF.out]
      have hz := SZ.out
      have hz3 := HZ3.out
      have hz5 := HZ5.out
      have r9 := R8.out.upd UU10.out (fun k e _ hk => by have := (R8.out.lt k e).1; omega)
      have k9 := K8.out.upd UU10.out (fun k e _ hk => by have := (K8.out.lt k e).1; omega)
      obtain ⟨_, _, e1, _, _, x1, x2⟩ := r9.cells (by rw [lgs_length, List.length_set]; have := HL.out; omega)
      cases e1
      obtain ⟨_, _, e2, _, _, x3, x4⟩ := k9.cells1
      cases e2
      refine ⟨some ⟨ga, 0, none⟩, c4, B4, d4, ?_, x1, x3, fun ad e => .inr (by have := (x2 ad e).1; omega), fun ad e => .inr (by have := (x4 ad e).1; omega), BW8.out.trans (UU10.out.below BW8.out.size (fun k hk e => by omega))⟩
      simp only [List.length_set]
      rw [HAV.out]
      rw [show D.pre.down = false from HDN.out]
      rfl
end Go.Proofs.Ytimjadjopemefaa
