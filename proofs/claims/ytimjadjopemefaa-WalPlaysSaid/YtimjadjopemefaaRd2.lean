/- The reference's disk: Up, Bytes, New. -/
import Derived.Test.YtimjadjopemefaaRd1
set_option linter.unusedVariables false
set_option linter.unusedSimpArgs false
namespace Go.Proofs.Ytimjadjopemefaa
open Go.RowKit

theorem add_next (a : Addr) (n : Nat) : a.add (n + 1) = ⟨(a.add n).block, (a.add n).off + 1, none⟩ := by
  unfold Addr.add; split <;> split <;> simp_all <;> omega
theorem lgs_get (ls : List (List UInt8 × Nat)) : ∀ (i : Nat) (h : i < ls.length), (lgs ls)[i * 2]? = some (.string (str (ls[i].1.take ls[i].2))) ∧ (lgs ls)[i * 2 + 1]? = some (.string (str (ls[i].1.drop ls[i].2))) := by
  induction ls with
  | nil => intro i h; simp at h
  | cons x xs ih =>
    intro i h
    cases i with
    | zero => exact ⟨rfl, rfl⟩
    | succ i =>
      have := ih i (by simpa using h)
      simp only [List.getElem_cons_succ]
      have e : lgs (x :: xs) = .string (str (x.1.take x.2)) :: .string (str (x.1.drop x.2)) :: lgs xs := rfl
      rw [e]
      refine ⟨?_, ?_⟩
      · rw [show (i + 1) * 2 = i * 2 + 1 + 1 by omega]; simpa using this.1
      · rw [show (i + 1) * 2 + 1 = i * 2 + 1 + 1 + 1 by omega]; simpa using this.2

set_option maxHeartbeats 4000000 in
set_option maxRecDepth 100000 in
theorem rup_calls (A B : Option Addr) (n c m d : Nat) (acts : Nat) (off : Bool) (armed : Int) (w : World) :
    Calls Try.prog 63 #[.agg #[.slice A n c, .int .i64 (acts : Int), .bool off, .int .i64 armed, .slice B m d]] w fun e w' => e = .returned (.agg #[.slice A n c, .int .i64 (acts : Int), .bool false, .int .i64 armed, .slice B m d]) ∧ Below w.heap.size w w' := by
  obtain ⟨W0, hW0, b0, sz, n0, n1⟩ := rd_boxes w #[.slice A n c, .int .i64 (acts : Int), .bool off, .int .i64 armed, .slice B m d]
  have f2 := n0.free 2 none
  have y2 : W0.cell? ⟨w.heap.size, 2, none⟩ = some (.bool off) := n0.cell 2 _ rfl
  have u1 : Upd (fun k => k = w.heap.size) W0 (W0.setCell ⟨w.heap.size, 2, none⟩ (.bool false)) := (Upd.refl _ _).set _ _ (fun _ => rfl)
  obtain ⟨W1, hW1⟩ : ∃ W1, W1 = W0.setCell ⟨w.heap.size, 2, none⟩ (.bool false) := ⟨_, rfl⟩
  have n2 : Blk W1 w.heap.size 70 #[.slice A n c, .int .i64 (acts : Int), .bool false, .int .i64 armed, .slice B m d] := by rw [hW1]; simpa using n0.set 2 (.bool false)
  rw [← hW1] at u1
  have N1 := Lib.hid (n1.upd u1 (by omega))
  have N2 := Lib.hid n2
  have BW := Lib.hid (b0.trans (u1.below b0.size (fun i hi e => by omega)))
  have HW0 := Lib.hid hW0
  have HW1 := Lib.hid hW1
  clear hW0 hW1 n0 n1 n2 u1 b0 sz
  go_enter Try.func63, Try.ntmps63
  go_upto_region 1 with fail
  rw [← HW0.out]
  go_upto_region 2 with fail
  rw [← HW1.out]
  clear HW1 f2 y2
  have q0 := N2.out.cell 0 _ rfl
  have q1 := N2.out.cell 1 _ rfl
  have q2 := N2.out.cell 2 _ rfl
  have q3 := N2.out.cell 3 _ rfl
  have q4 := N2.out.cell 4 _ rfl
  have p0 := N1.out.cell 0 _ rfl
  have p1 := N1.out.cell 1 _ rfl
  have p2 := N1.out.cell 2 _ rfl
  have p3 := N1.out.cell 3 _ rfl
  have p4 := N1.out.cell 4 _ rfl
  have g0 := N1.out.free 0 none
  have g1 := N1.out.free 1 none
  have g2 := N1.out.free 2 none
  have g3 := N1.out.free 3 none
  have g4 := N1.out.free 4 none
  simp only [List.getElem_toArray, List.getElem_cons_zero, List.getElem_cons_succ] at q0 q1 q2 q3 q4 p0 p1 p2 p3 p4
  go_wp2_with fail
  try simp only [Exit.inBlock, Exit.then]
  obtain ⟨E10, U10⟩ := five_sets N1.out (.slice A n c) (.int .i64 (acts : Int)) (.bool false) (.int .i64 armed) (.slice B m d)
  refine bodyPost_ret (results_rd rfl rfl (E10.cell 0 _ rfl) (E10.cell 1 _ rfl) (E10.cell 2 _ rfl) (E10.cell 3 _ rfl) (E10.cell 4 _ rfl)) rfl ?_
  exact ⟨rfl, BW.out.trans (U10.below BW.out.size (fun i hi e => by omega))⟩

set_option maxHeartbeats 4000000 in
set_option maxRecDepth 100000 in
theorem rbytes_calls (A B : Option Addr) (c d : Nat) (D : DS) (n : Int) (w : World) (hA : Cells w A (lgs D.logs)) (hl : D.logs.length ≤ 16) (hsm : ∀ j (h : j < D.logs.length), D.logs[j].1.length ≤ 4194304) :
    Calls Try.prog 65 #[.agg #[.slice A D.logs.length c, .int .i64 (D.acts : Int), .bool D.down, .int .i64 D.armed, .slice B D.keep.length d], .int .i64 n] w fun e w' => e = .returned (.tuple #[.string (str (if D.has n then (D.log n).1 else [])), .bool (D.has n)]) ∧ Below w.heap.size w w' := by
  have HA := Lib.hid (hA.below (below_one w (.cells #[.slice A D.logs.length c, .int .i64 (D.acts : Int), .bool D.down, .int .i64 D.armed, .slice B D.keep.length d] 70)))
  have n0 := Blk.new w 70 #[.slice A D.logs.length c, .int .i64 (D.acts : Int), .bool D.down, .int .i64 D.armed, .slice B D.keep.length d]
  have HB := Lib.hid (below_one w (.cells #[.slice A D.logs.length c, .int .i64 (D.acts : Int), .bool D.down, .int .i64 D.armed, .slice B D.keep.length d] 70))
  clear hA
  cases hh : D.has n with
  | false =>
    have hc : n < 0 ∨ (¬ n < 0 ∧ (D.logs.length : Int) ≤ n) := by
      unfold DS.has at hh
      by_cases h0 : n < 0
      · exact .inl h0
      · refine .inr ⟨h0, ?_⟩
        simp at hh
        omega
    clear hh
    go_enter Try.func65, Try.ntmps65
    go_upto_region 1 with fail
    generalize w.alloc (.cells #[.slice A D.logs.length c, .int .i64 (D.acts : Int), .bool D.down, .int .i64 D.armed, .slice B D.keep.length d] 70) = W0 at HA n0 HB ⊢
    have q0 := n0.cell 0 _ rfl
    simp only [List.getElem_toArray, List.getElem_cons_zero, List.getElem_cons_succ] at q0
    clear n0
    rcases hc with hc | ⟨hc, hc2⟩
    · go_wp2
      go_ret2
      exact ⟨rfl, HB.out⟩
    · go_wp2
      go_ret2
      exact ⟨rfl, HB.out⟩
  | true =>
    obtain ⟨i, rfl, hi⟩ := DS.has_iff.1 hh
    clear hh
    rw [if_pos rfl, DS.log_at hi]
    obtain ⟨x, hx⟩ : ∃ x, x = D.logs[i] := ⟨_, rfl⟩
    rw [← hx]
    obtain ⟨ad, rfl, hc0⟩ := HA.out.get (i * 2) (.string (str (x.1.take x.2))) (by rw [hx]; exact (lgs_get _ i hi).1)
    obtain ⟨ad', e, hc1⟩ := HA.out.get (i * 2 + 1) (.string (str (x.1.drop x.2))) (by rw [hx]; exact (lgs_get _ i hi).2)
    cases e
    rw [add_next] at hc1
    obtain ⟨p, hp⟩ : ∃ p, p = x.1.take x.2 := ⟨_, rfl⟩
    obtain ⟨q, hq⟩ : ∃ q, q = x.1.drop x.2 := ⟨_, rfl⟩
    have hpq : p ++ q = x.1 := by rw [hp, hq, List.take_append_drop]
    have hlen : p.length + q.length ≤ 4194304 := by
      have h1 := hsm i hi
      rw [← hx, ← hpq, List.length_append] at h1
      exact h1
    rw [← hp] at hc0
    rw [← hq] at hc1
    rw [← hpq]
    have ka := fun w => run_string_add_sum (P := Try.prog) w (str p) (str q) (by rw [str_size, str_size]; omega)
    rw [str_append] at ka
    clear hp hq hpq hlen hsm
    go_enter Try.func65, Try.ntmps65
    go_upto_region 1 with fail
    generalize w.alloc (.cells #[.slice (some ad) D.logs.length c, .int .i64 (D.acts : Int), .bool D.down, .int .i64 D.armed, .slice B D.keep.length d] 70) = W0 at HA n0 HB hc0 hc1 ⊢
    have q0 := n0.cell 0 _ rfl
    simp only [List.getElem_toArray, List.getElem_cons_zero, List.getElem_cons_succ] at q0
    have hn0 : ¬ (i : Int) < 0 := by omega
    have hn1 : ¬ (D.logs.length : Int) ≤ (i : Int) := by omega
    have hn2 : ¬ D.logs.length ≤ i := by omega
    clear n0 hx x
    go_upto_region 3 with fail
    go_quiet (fail)
    go_wp2
    go_ret2
    exact ⟨rfl, HB.out.trans ((bdrewN (Below.refl _ _) _).mono HB.out.size)⟩
end Go.Proofs.Ytimjadjopemefaa
