/- The reference's disk: Arm. -/
import Derived.Test.YtimjadjopemefaaRd3
set_option linter.unusedVariables false
set_option linter.unusedSimpArgs false
namespace Go.Proofs.Ytimjadjopemefaa
open Go.RowKit

theorem blk5 {W : World} {b : Nat} {T : TypeId} {y0 y1 y2 y3 y4 : Value} (h : Blk W b T #[y0, y1, y2, y3, y4]) :
    (W.cell? ⟨b, 0, none⟩ = some y0 ∧ W.cell? ⟨b, 1, none⟩ = some y1 ∧ W.cell? ⟨b, 2, none⟩ = some y2 ∧ W.cell? ⟨b, 3, none⟩ = some y3 ∧ W.cell? ⟨b, 4, none⟩ = some y4) ∧
    (W.frozen? ⟨b, 0, none⟩ = false ∧ W.frozen? ⟨b, 1, none⟩ = false ∧ W.frozen? ⟨b, 2, none⟩ = false ∧ W.frozen? ⟨b, 3, none⟩ = false ∧ W.frozen? ⟨b, 4, none⟩ = false) :=
  ⟨⟨h.cell 0 _ rfl, h.cell 1 _ rfl, h.cell 2 _ rfl, h.cell 3 _ rfl, h.cell 4 _ rfl⟩, h.free 0 none, h.free 1 none, h.free 2 none, h.free 3 none, h.free 4 none⟩
/-- A disk's rows, new behind a call. -/
structure RNew (w0 w : World) (A : Option Addr) (c : Nat) (B : Option Addr) (d : Nat) (ls : List (List UInt8 × Nat)) (ks : List Int) : Prop where
  logs : Row w w0.heap.size 135 2 (.slice A ls.length c) ls.length (lgs ls)
  keep : Row w w0.heap.size 3 1 (.slice B ks.length d) ks.length (ints ks)
  below : Below w0.heap.size w0 w

set_option maxHeartbeats 4000000 in
set_option maxRecDepth 100000 in
theorem rarm_calls (A B : Option Addr) (c d : Nat) (D : DS) (n : Int) (M : Option Addr) (q : Nat) (ks : List Int) (w : World) (hl : D.logs.length ≤ 16) (hk : D.keep.length ≤ 1000000) (hks : ks.length ≤ 1000000) (hA : Cells w A (lgs D.logs)) (hB : Cells w B (ints D.keep)) (hM : Cells w M (ints ks)) :
    Calls Try.prog 76 #[.agg #[.slice A D.logs.length c, .int .i64 (D.acts : Int), .bool D.down, .int .i64 D.armed, .slice B D.keep.length d], .int .i64 n, .slice M ks.length q] w fun e w' => ∃ A' c' B' d', e = .returned (.agg #[.slice A' D.logs.length c', .int .i64 (D.acts : Int), .bool D.down, .int .i64 (max n 0), .slice B' ks.length d']) ∧ RNew w w' A' c' B' d' D.logs ks := by
  obtain ⟨W0, hW0, b0, sz, n0, n1⟩ := rd_boxes w #[.slice A D.logs.length c, .int .i64 (D.acts : Int), .bool D.down, .int .i64 D.armed, .slice B D.keep.length d]
  have HA := Lib.hid (hA.below b0)
  have HB := Lib.hid (hB.below b0)
  have HM := Lib.hid hM
  have HW0 := Lib.hid hW0
  have B0 := Lib.hid b0
  have N0 := Lib.hid n0
  have N1 := Lib.hid n1
  have SZ := Lib.hid sz
  have HL := Lib.hid hl
  have HK := Lib.hid hk
  have HKS := Lib.hid hks
  clear hA hB hM hW0 b0 n0 n1 sz hl hk hks
  go_enter Try.func76, Try.ntmps76
  go_upto_region 1 with fail
  rw [← HW0.out]
  obtain ⟨⟨q0, q1, q2, q3, q4⟩, _⟩ := blk5 N0.out
  go_wp2_with fail
  refine (rcopy_calls A B c d D W0 HL.out HK.out HA.out HB.out).mono ?_
  rintro e w1 ⟨A1, c1, B1, d1, rfl, r1, _, b1⟩
  clear q0 q1 q2 q3 q4
  have n01 := N0.out.below b1
  obtain ⟨⟨q0, q1, q2, q3, q4⟩, g0, g1, g2, g3, g4⟩ := blk5 n01
  obtain ⟨e2, u2⟩ := five_sets n01 (.slice A1 D.logs.length c1) (.int .i64 (D.acts : Int)) (.bool D.down) (.int .i64 D.armed) (.slice B1 D.keep.length d1)
  obtain ⟨W2, hW2⟩ : ∃ W2, W2 = (((((w1.setCell ⟨w.heap.size, 0, Option.none⟩ (.slice A1 D.logs.length c1)).setCell ⟨w.heap.size, 1, Option.none⟩ (.int .i64 (D.acts : Int))).setCell ⟨w.heap.size, 2, Option.none⟩ (.bool D.down)).setCell ⟨w.heap.size, 3, Option.none⟩ (.int .i64 D.armed)).setCell ⟨w.heap.size, 4, Option.none⟩ (.slice B1 D.keep.length d1)) := ⟨_, rfl⟩
  rw [← hW2] at e2 u2
  have hz := SZ.out
  have bw1 : Below w.heap.size w w1 := B0.out.trans (b1.mono B0.out.size)
  have N2 := Lib.hid e2
  have N12 := Lib.hid ((N1.out.below b1).upd u2 (by omega))
  have R2 := Lib.hid (r1.upd u2 (fun k e _ hk => by have := (r1.lt k e).1; omega))
  have BW2 := Lib.hid (bw1.trans (u2.below bw1.size (fun i hi e => by omega)))
  have HZ2 := Lib.hid (show W0.heap.size ≤ W2.heap.size from Nat.le_trans b1.size u2.size)
  have HW2 := Lib.hid hW2
  clear hW2 n01 e2 u2 r1 b1 bw1 hz HA HB N0 N1 B0 HW0
  go_upto_region 2 with fail
  rw [← HW2.out]
  clear HW2 q0 q1 q2 q3 q4 g0 g1 g2 g3 g4
  obtain ⟨⟨q0, q1, q2, q3, q4⟩, g0, g1, g2, g3, g4⟩ := blk5 N2.out
  -- the arm
  have hset : ∀ (W : World) (a v : Int), Blk W w.heap.size 70 #[.slice A1 D.logs.length c1, .int .i64 (D.acts : Int), .bool D.down, .int .i64 a, .slice B1 D.keep.length d1] → Blk (W.setCell ⟨w.heap.size, 3, none⟩ (.int .i64 v)) w.heap.size 70 #[.slice A1 D.logs.length c1, .int .i64 (D.acts : Int), .bool D.down, .int .i64 v, .slice B1 D.keep.length d1] := fun W a v h => by simpa using h.set 3 (.int .i64 v)
  have n3 := hset W2 D.armed 0 N2.out
  have n4 := hset _ 0 n n3
  have u3 : Upd (fun k => k = w.heap.size) W2 (W2.setCell ⟨w.heap.size, 3, none⟩ (.int .i64 0)) := (Upd.refl _ _).set _ _ (fun _ => rfl)
  have u4 : Upd (fun k => k = w.heap.size) W2 ((W2.setCell ⟨w.heap.size, 3, none⟩ (.int .i64 0)).setCell ⟨w.heap.size, 3, none⟩ (.int .i64 n)) := u3.set _ _ (fun _ => rfl)
  have H3 := Lib.hid n3
  have H4 := Lib.hid n4
  have U3 := Lib.hid u3
  have U4 := Lib.hid u4
  clear hset n3 n4 u3 u4
  by_cases hn : 0 < n
  case' pos =>
    have HMX := Lib.hid (show max n 0 = n by omega)
    obtain ⟨⟨_, _, _, x3, _⟩, _, _, _, y3, _⟩ := blk5 H3.out
    go_upto_region 5 with fail
    clear x3 y3
    generalize (W2.setCell ⟨w.heap.size, 3, none⟩ (.int .i64 0)).setCell ⟨w.heap.size, 3, none⟩ (.int .i64 n) = W5 at H4 U4 ⊢
    have HH := Lib.hid (by have := H4.out; rw [← HMX.out] at this; exact this : Blk W5 w.heap.size 70 #[.slice A1 D.logs.length c1, .int .i64 (D.acts : Int), .bool D.down, .int .i64 (max n 0), .slice B1 D.keep.length d1])
    have UU := U4
    clear H3 H4 U3 U4 HMX
  case' neg =>
    have HMX := Lib.hid (show max n 0 = 0 by omega)
    go_upto_region 5 with fail
    generalize W2.setCell ⟨w.heap.size, 3, none⟩ (.int .i64 0) = W5 at H3 U3 ⊢
    have HH := Lib.hid (by have := H3.out; rw [← HMX.out] at this; exact this : Blk W5 w.heap.size 70 #[.slice A1 D.logs.length c1, .int .i64 (D.acts : Int), .bool D.down, .int .i64 (max n 0), .slice B1 D.keep.length d1])
    have UU := U3
    clear H3 H4 U3 U4 HMX
  all_goals
    clear q0 q1 q2 q3 q4 g0 g1 g2 g3 g4 hn
    have hz := SZ.out
    have hz2 := HZ2.out
    have N13 := Lib.hid (N12.out.upd UU.out (by omega))
    have R3 := Lib.hid (R2.out.upd UU.out (fun k e _ hk => by have := (R2.out.lt k e).1; omega))
    have bw5 : Below w.heap.size w W5 := BW2.out.trans (UU.out.below BW2.out.size (fun i hi e => by omega))
    have BW5 := Lib.hid bw5
    have HZ5 := Lib.hid (Nat.le_trans hz2 UU.out.size)
    have HM5 := Lib.hid (HM.out.below bw5)
    clear hz hz2 bw5 N12 R2 BW2 HZ2 UU N2
    go_wp2_with (with_reducible refine halt_dst 16 ?_)
    have G3 : Below W5.heap.size W5 (W5.alloc (.cells #[] 3)) := below_one W5 _
    refine wpList_append_row rfl (.tmp 14) (.tmp 15) 60 rfl W5.heap.size 3 (.int .i64 0) 1 8 Try.underlying60 Try.inf3 rfl (by decide) (.slice (some ⟨W5.heap.size, 0, none⟩) 0 0) 0 [] rfl (row_new W5 W5.heap.size 3 1 (Nat.le_refl _)) M ks.length q (ints ks) rfl (by rw [ints_length]; omega) (HM5.out.below G3) (ints_one _) (by have := HKS.out; simp only [maxLen]; omega) (by have := HKS.out; omega) G3.size ?_
    intro v6 w6 r6 g6 _
    have B6 : Below W5.heap.size W5 w6 := G3.grown g6 G3.size (fun k hk => by simp [Value.ownBlock] at hk; omega)
    have R6 : Row w6 W5.heap.size 3 1 v6 ks.length (ints ks) := by simpa using r6
    have R6' := R6
    obtain ⟨A6, c6, rfl, _, _, _, _⟩ := R6'.cells1
    have n6 := HH.out.below B6
    obtain ⟨⟨_, _, _, _, x4⟩, _, _, _, _, y4⟩ := blk5 n6
    have n7 : Blk (w6.setCell ⟨w.heap.size, 4, none⟩ (.slice A6 ks.length c6)) w.heap.size 70 #[.slice A1 D.logs.length c1, .int .i64 (D.acts : Int), .bool D.down, .int .i64 (max n 0), .slice A6 ks.length c6] := by simpa using n6.set 4 (.slice A6 ks.length c6)
    have u7 : Upd (fun k => k = w.heap.size) w6 (w6.setCell ⟨w.heap.size, 4, none⟩ (.slice A6 ks.length c6)) := (Upd.refl _ _).set _ _ (fun _ => rfl)
    obtain ⟨W7, hW7⟩ : ∃ W7, W7 = w6.setCell ⟨w.heap.size, 4, none⟩ (.slice A6 ks.length c6) := ⟨_, rfl⟩
    rw [← hW7] at n7 u7
    have hz := SZ.out
    have hz5 := HZ5.out
    have N7 := Lib.hid n7
    have N17 := Lib.hid ((N13.out.below B6).upd u7 (by omega))
    have BW7 := Lib.hid ((BW5.out.trans (B6.mono BW5.out.size)).trans (u7.below (by have := BW5.out.size; have := B6.size; omega) (fun i hi e => by omega)))
    have R7 := Lib.hid ((R3.out.below B6).upd u7 (fun k e _ hk => by have := (R3.out.lt k e).1; omega))
    have R8 := Lib.hid (R6.upd u7 (fun k e _ hk => by have := (R6.lt k e).1; omega))
    have HW7 := Lib.hid hW7
    clear hW7 n6 n7 u7 R6 R6' B6 r6 g6 G3 hz hz5 N13 R3 HM5 HH BW5
    go_upto_region 6 with fail
    rw [← HW7.out]
    clear HW7 x4 y4
    obtain ⟨⟨q0, q1, q2, q3, q4⟩, _⟩ := blk5 N7.out
    obtain ⟨⟨p0, p1, p2, p3, p4⟩, g0, g1, g2, g3, g4⟩ := blk5 N17.out
    go_wp2_with fail
    try simp only [Exit.inBlock, Exit.then]
    obtain ⟨E10, U10⟩ := five_sets N17.out (.slice A1 D.logs.length c1) (.int .i64 (D.acts : Int)) (.bool D.down) (.int .i64 (max n 0)) (.slice A6 ks.length c6)
    refine bodyPost_ret (results_rd rfl rfl (E10.cell 0 _ rfl) (E10.cell 1 _ rfl) (E10.cell 2 _ rfl) (E10.cell 3 _ rfl) (E10.cell 4 _ rfl)) rfl ?_
    have hz := SZ.out
    have hz5 := HZ5.out
    exact ⟨A1, c1, A6, c6, rfl, (R7.out.upd U10 (fun k e _ hk => by have := (R7.out.lt k e).1; omega)).mono (by omega), (R8.out.upd U10 (fun k e _ hk => by have := (R8.out.lt k e).1; omega)).mono (by omega), BW7.out.trans (U10.below BW7.out.size (fun i hi e => by omega))⟩
end Go.Proofs.Ytimjadjopemefaa
