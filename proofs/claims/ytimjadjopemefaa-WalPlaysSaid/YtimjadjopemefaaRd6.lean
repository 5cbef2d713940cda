/- The reference's disk: Act. -/
import Derived.Test.YtimjadjopemefaaRd5
set_option linter.unusedVariables false
set_option linter.unusedSimpArgs false
namespace Go.Proofs.Ytimjadjopemefaa
open Go.RowKit

def actF (kind : Nat) (s : List UInt8) (l : List UInt8 × Nat) : List UInt8 × Nat := match kind with | 0 => (l.1 ++ s, l.2) | 1 => (l.1, l.1.length) | _ => (s, s.length)
def actSz (D : DS) (kind : Nat) (n : Int) (s : List UInt8) : Int := match kind with | 0 => D.appSize n s | 1 => 0 | _ => s.length
/-- What an act of the reference's answers. -/
def RActed (w : World) (A B : Option Addr) (D' : DS) (err : Int) (e : Ending) (w' : World) : Prop :=
  ∃ A' c' B' d', e = .returned (.tuple #[.agg #[.slice A' D'.logs.length c', .int .i64 (D'.acts : Int), .bool D'.down, .int .i64 D'.armed, .slice B' D'.keep.length d'], .int .i64 err]) ∧
    Cells w' A' (lgs D'.logs) ∧ Cells w' B' (ints D'.keep) ∧ (∀ ad, A' = some ad → A = some ad ∨ w.heap.size ≤ ad.block) ∧ (∀ ad, B' = some ad → B = some ad ∨ w.heap.size ≤ ad.block) ∧ Below w.heap.size w w'

set_option maxHeartbeats 4000000 in
set_option maxRecDepth 100000 in
/-- An act on no log, or without power. -/
theorem ract_refused (A B : Option Addr) (c d : Nat) (D : DS) (kind : Nat) (n : Int) (s : List UInt8) (w : World) (hl : D.logs.length ≤ 16) (hA : Cells w A (lgs D.logs)) (hB : Cells w B (ints D.keep)) (hbad : D.has n = false ∨ (D.has n = true ∧ D.down = true)) :
    Calls Try.prog 75 #[.agg #[.slice A D.logs.length c, .int .i64 (D.acts : Int), .bool D.down, .int .i64 D.armed, .slice B D.keep.length d], .int .i64 (kind : Int), .int .i64 n, .string (str s)] w (RActed w A B D (if D.has n then 71 else 70)) := by
  obtain ⟨W0, hW0, b0, sz, n0, n1⟩ := rd_boxes w #[.slice A D.logs.length c, .int .i64 (D.acts : Int), .bool D.down, .int .i64 D.armed, .slice B D.keep.length d]
  have HA := Lib.hid hA
  have HB := Lib.hid hB
  have HW0 := Lib.hid hW0
  have B0 := Lib.hid b0
  have N0 := Lib.hid n0
  have N1 := Lib.hid n1
  have SZ := Lib.hid sz
  clear hA hB hW0 b0 n0 n1 sz
  rcases hbad with hh | ⟨hh, hdn⟩
  · have hc : n < 0 ∨ (¬ n < 0 ∧ (D.logs.length : Int) ≤ n) := by
      unfold DS.has at hh
      by_cases h0 : n < 0
      · exact .inl h0
      · refine .inr ⟨h0, ?_⟩
        simp at hh
        omega
    rw [hh, if_neg (by decide)]
    clear hh
    go_enter Try.func75, Try.ntmps75
    go_upto_region 1 with fail
    rw [← HW0.out]
    obtain ⟨⟨q0, q1, q2, q3, q4⟩, _⟩ := blk5 N0.out
    obtain ⟨⟨p0, p1, p2, p3, p4⟩, g0, g1, g2, g3, g4⟩ := blk5 N1.out
    obtain ⟨E10, U10⟩ := five_sets N1.out (.slice A D.logs.length c) (.int .i64 (D.acts : Int)) (.bool D.down) (.int .i64 D.armed) (.slice B D.keep.length d)
    have hz := SZ.out
    have bl := B0.out.trans (U10.below B0.out.size (fun i hi e => by omega))
    have HE := Lib.hid E10
    have BL := Lib.hid bl
    clear E10 U10 hz bl
    rcases hc with hc | ⟨hc, hc2⟩
    all_goals
      go_wp2_with fail
      try simp only [Exit.inBlock, Exit.then]
      refine bodyPost_ret (results_rd2 rfl rfl (HE.out.cell 0 _ rfl) (HE.out.cell 1 _ rfl) (HE.out.cell 2 _ rfl) (HE.out.cell 3 _ rfl) (HE.out.cell 4 _ rfl)) rfl ?_
      exact ⟨A, c, B, d, rfl, HA.out.below BL.out, HB.out.below BL.out, fun ad e => .inl e, fun ad e => .inl e, BL.out⟩
  · obtain ⟨i, rfl, hi⟩ := DS.has_iff.1 hh
    rw [hh, if_pos rfl]
    have HDN := Lib.hid hdn
    clear hh hdn
    go_enter Try.func75, Try.ntmps75
    go_upto_region 1 with fail
    rw [← HW0.out]
    have n0 := N0.out
    rw [HDN.out] at n0
    obtain ⟨⟨q0, q1, q2, q3, q4⟩, _⟩ := blk5 n0
    obtain ⟨⟨p0, p1, p2, p3, p4⟩, g0, g1, g2, g3, g4⟩ := blk5 N1.out
    obtain ⟨E10, U10⟩ := five_sets N1.out (.slice A D.logs.length c) (.int .i64 (D.acts : Int)) (.bool true) (.int .i64 D.armed) (.slice B D.keep.length d)
    have hz := SZ.out
    have bl := B0.out.trans (U10.below B0.out.size (fun i hi e => by omega))
    have HE := Lib.hid E10
    have BL := Lib.hid bl
    have hn0 : ¬ (i : Int) < 0 := by omega
    have hn1 : ¬ (D.logs.length : Int) ≤ (i : Int) := by omega
    have hn2 : ¬ D.logs.length ≤ i := by omega
    clear E10 U10 hz bl n0
    go_wp2_with fail
    try simp only [Exit.inBlock, Exit.then]
    refine bodyPost_ret (results_rd2 rfl rfl (HE.out.cell 0 _ rfl) (HE.out.cell 1 _ rfl) (HE.out.cell 2 _ rfl) (HE.out.cell 3 _ rfl) (HE.out.cell 4 _ rfl)) rfl ?_
    exact ⟨A, c, B, d, by rw [HDN.out]; rfl, HA.out.below BL.out, HB.out.below BL.out, fun ad e => .inl e, fun ad e => .inl e, BL.out⟩
end Go.Proofs.Ytimjadjopemefaa
