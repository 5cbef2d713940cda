/- The reference's disk: what its value says, and its Copy. -/
import Derived.Test.YtimjadjopemefaaDke
import Derived.Test.YtimjadjopemefaaRs3
set_option linter.unusedVariables false
set_option linter.unusedSimpArgs false
namespace Go.Proofs.Ytimjadjopemefaa
open Go.RowKit

/-- A log as the reference has it. -/
def lg2 (x : List UInt8 × Nat) : List Value := [.string (str (x.1.take x.2)), .string (str (x.1.drop x.2))]
def lgs (ls : List (List UInt8 × Nat)) : List Value := ls.flatMap lg2
theorem lgs_length (ls : List (List UInt8 × Nat)) : (lgs ls).length = ls.length * 2 := by
  induction ls with
  | nil => rfl
  | cons x xs ih => simp only [lgs, List.flatMap_cons, List.length_append, List.length_cons] at ih ⊢; simp only [lg2, List.length_cons, List.length_nil]; omega
theorem lgs_one (ls : List (List UInt8 × Nat)) : ∀ u ∈ lgs ls, u.oneCell' = true := by
  intro u hu
  simp only [lgs, List.mem_flatMap] at hu
  obtain ⟨s, _, hs⟩ := hu
  simp only [lg2, List.mem_cons, List.not_mem_nil, or_false] at hs
  rcases hs with rfl | rfl <;> rfl
theorem Try.info135 : (Try.prog.info? 135).map (fun i => (i.zero, i.size, i.bytes)) = some (some (.agg #[.string ByteArray.empty, .string ByteArray.empty]), 2, 32) := by kernel_rfl
/-- The five cells of a disk. -/
def rdCells (L : Value) (acts : Int) (off : Bool) (armed : Int) (K : Value) : Array Value := #[L, .int .i64 acts, .bool off, .int .i64 armed, K]
theorem results_rd {fn : Func} {tmps : Array Value} {W : World} {a : Tmp} {g : Nat} {y0 y1 y2 y3 y4 : Value} (hres : fn.results = #[.cell a 70]) (ha : tmps.getD a undef = .pointer (some ⟨g, 0, Option.none⟩))
    (c0 : W.cell? ⟨g, 0, Option.none⟩ = some y0) (c1 : W.cell? ⟨g, 1, Option.none⟩ = some y1) (c2 : W.cell? ⟨g, 2, Option.none⟩ = some y2) (c3 : W.cell? ⟨g, 3, Option.none⟩ = some y3) (c4 : W.cell? ⟨g, 4, Option.none⟩ = some y4) :
    (results fn tmps).run Try.prog W = .ok (.agg #[y0, y1, y2, y3, y4]) W := by
  have ha' : tmps[a]?.getD undef = .pointer (some ⟨g, 0, Option.none⟩) := by simpa using ha
  simp [results, hres, ha', c0, c1, c2, c3, c4, go_sem]
theorem five_sets {W : World} {b : Nat} {T : TypeId} {y0 y1 y2 y3 y4 : Value} (h : Blk W b T #[y0, y1, y2, y3, y4]) (z0 z1 z2 z3 z4 : Value) :
    Blk (((((W.setCell ⟨b, 0, Option.none⟩ z0).setCell ⟨b, 1, Option.none⟩ z1).setCell ⟨b, 2, Option.none⟩ z2).setCell ⟨b, 3, Option.none⟩ z3).setCell ⟨b, 4, Option.none⟩ z4) b T #[z0, z1, z2, z3, z4] ∧
    Upd (fun k => k = b) W (((((W.setCell ⟨b, 0, Option.none⟩ z0).setCell ⟨b, 1, Option.none⟩ z1).setCell ⟨b, 2, Option.none⟩ z2).setCell ⟨b, 3, Option.none⟩ z3).setCell ⟨b, 4, Option.none⟩ z4) :=
  ⟨by simpa using ((((h.set 0 z0).set 1 z1).set 2 z2).set 3 z3).set 4 z4, (((((Upd.refl (fun k => k = b) W).set ⟨b, 0, Option.none⟩ z0 (fun _ => rfl)).set ⟨b, 1, Option.none⟩ z1 (fun _ => rfl)).set ⟨b, 2, Option.none⟩ z2 (fun _ => rfl)).set ⟨b, 3, Option.none⟩ z3 (fun _ => rfl)).set ⟨b, 4, Option.none⟩ z4 (fun _ => rfl)⟩

/-- The two boxes of a function that takes a disk and gives one. -/
theorem rd_boxes (w : World) (cs : Array Value) :
    ∃ W0, W0 = (w.alloc (.cells cs 70)).alloc (.cells #[.slice none 0 0, .int .i64 0, .bool false, .int .i64 0, .slice none 0 0] 70) ∧ Below w.heap.size w W0 ∧ W0.heap.size = w.heap.size + 2 ∧ Blk W0 w.heap.size 70 cs ∧ Blk W0 (w.heap.size + 1) 70 #[.slice none 0 0, .int .i64 0, .bool false, .int .i64 0, .slice none 0 0] := by
  refine ⟨_, rfl, ((Below.refl _ _).alloc (Nat.le_refl _) _).alloc (by simp) _, by simp, (Blk.new w 70 _).below (below_one _ _), ?_⟩
  have := Blk.new (w.alloc (.cells cs 70)) 70 #[.slice none 0 0, .int .i64 0, .bool false, .int .i64 0, .slice none 0 0]
  simpa using this

set_option maxHeartbeats 4000000 in
set_option maxRecDepth 100000 in
theorem rcopy_calls (A B : Option Addr) (c d : Nat) (D : DS) (w : World) (hl : D.logs.length ≤ 16) (hk : D.keep.length ≤ 1000000) (hA : Cells w A (lgs D.logs)) (hB : Cells w B (ints D.keep)) :
    Calls Try.prog 84 #[.agg #[.slice A D.logs.length c, .int .i64 (D.acts : Int), .bool D.down, .int .i64 D.armed, .slice B D.keep.length d]] w fun e w' => ∃ A' c' B' d', e = .returned (.agg #[.slice A' D.logs.length c', .int .i64 (D.acts : Int), .bool D.down, .int .i64 D.armed, .slice B' D.keep.length d']) ∧
      Row w' w.heap.size 135 2 (.slice A' D.logs.length c') D.logs.length (lgs D.logs) ∧ Row w' w.heap.size 3 1 (.slice B' D.keep.length d') D.keep.length (ints D.keep) ∧ Below w.heap.size w w' := by
  obtain ⟨W0, hW0, b0, sz, n0, n1⟩ := rd_boxes w #[.slice A D.logs.length c, .int .i64 (D.acts : Int), .bool D.down, .int .i64 D.armed, .slice B D.keep.length d]
  have HA := Lib.hid (hA.below b0)
  have HB := Lib.hid hB
  have HW0 := Lib.hid hW0
  have B0 := Lib.hid b0
  have N0 := Lib.hid n0
  have N1 := Lib.hid n1
  have SZ := Lib.hid sz
  have HL := Lib.hid hl
  have HK := Lib.hid hk
  clear hA hB hW0 b0 n0 n1 sz hl hk
  go_enter Try.func84, Try.ntmps84
  go_upto_region 1 with fail
  rw [← HW0.out]
  have n0a := N0.out.below (below_one W0 (.cells #[] 135))
  have c0 : (W0.alloc (.cells #[] 135)).cell? ⟨w.heap.size, 0, none⟩ = some (.slice A D.logs.length c) := n0a.cell 0 _ rfl
  clear n0a
  go_wp2_with (with_reducible refine halt_dst 6 ?_)
  have G0 : Below W0.heap.size W0 (W0.alloc (.cells #[] 135)) := below_one W0 _
  refine wpList_append_row rfl (.tmp 3) (.tmp 5) 68 rfl W0.heap.size 135 (.agg #[.string ByteArray.empty, .string ByteArray.empty]) 2 32 Try.underlying68 Try.info135 rfl (by decide) (.slice (some ⟨W0.heap.size, 0, none⟩) 0 0) 0 [] rfl (row_new W0 W0.heap.size 135 2 (Nat.le_refl _)) A D.logs.length c (lgs D.logs) rfl (lgs_length _) (HA.out.below G0) (lgs_one _) (by have := HL.out; simp only [maxLen]; omega) (by have := HL.out; omega) G0.size ?_
  intro v2 w2 r2 g2 _
  have B2 : Below W0.heap.size W0 w2 := G0.grown g2 G0.size (fun k hk => by simp [Value.ownBlock] at hk; omega)
  have R2 : Row w2 W0.heap.size 135 2 v2 D.logs.length (lgs D.logs) := by simpa using r2
  have R2' := R2
  obtain ⟨A2, c2, rfl, _, _, _, _⟩ := R2'.cells (by rw [lgs_length]; have := HL.out; omega)
  -- the box's first cell
  have n2 := (N0.out.below B2).set 0 (.slice A2 D.logs.length c2)
  have u2 : Upd (fun k => k = w.heap.size) w2 (w2.setCell ⟨w.heap.size, 0, none⟩ (.slice A2 D.logs.length c2)) := (Upd.refl _ _).set _ _ (fun _ => rfl)
  have f0 := (N0.out.below B2).free 0 none
  have y0 : w2.cell? ⟨w.heap.size, 0, none⟩ = some (.slice A D.logs.length c) := (N0.out.below B2).cell 0 _ rfl
  obtain ⟨W3, hW3⟩ : ∃ W3, W3 = w2.setCell ⟨w.heap.size, 0, none⟩ (.slice A2 D.logs.length c2) := ⟨_, rfl⟩
  rw [← hW3] at n2 u2
  have hz := SZ.out
  have N2 := Lib.hid n2
  have N12 := Lib.hid ((N1.out.below B2).upd u2 (by omega))
  have R3 := Lib.hid (R2.upd u2 (fun k e _ hk => by have := (R2.lt k e).1; omega))
  have bw3 : Below w.heap.size w W3 := (B0.out.trans (B2.mono B0.out.size)).trans (u2.below (by have := B2.size; omega) (fun i hi e => by omega))
  have hz3 : W0.heap.size ≤ W3.heap.size := Nat.le_trans B2.size u2.size
  have HB3 := Lib.hid (HB.out.below bw3)
  have BW3 := Lib.hid bw3
  have HZ3 := Lib.hid hz3
  have HW3 := Lib.hid hW3
  clear hW3 r2 g2 R2' R2 B2 n2 u2 bw3 hz3 G0 c0 hz N1 N0 HA HB HW0 B0
  go_upto_region 2 with fail
  rw [← HW3.out]
  clear HW3 f0 y0
  have n3a := N2.out.below (below_one W3 (.cells #[] 3))
  have c4 : (W3.alloc (.cells #[] 3)).cell? ⟨w.heap.size, 4, none⟩ = some (.slice B D.keep.length d) := n3a.cell 4 _ rfl
  clear n3a
  go_wp2_with (with_reducible refine halt_dst 11 ?_)
  have G3 : Below W3.heap.size W3 (W3.alloc (.cells #[] 3)) := below_one W3 _
  refine wpList_append_row rfl (.tmp 8) (.tmp 10) 60 rfl W3.heap.size 3 (.int .i64 0) 1 8 Try.underlying60 Try.inf3 rfl (by decide) (.slice (some ⟨W3.heap.size, 0, none⟩) 0 0) 0 [] rfl (row_new W3 W3.heap.size 3 1 (Nat.le_refl _)) B D.keep.length d (ints D.keep) rfl (by rw [ints_length]; omega) (HB3.out.below G3) (ints_one _) (by have := HK.out; simp only [maxLen]; omega) (by have := HK.out; omega) G3.size ?_
  intro v5 w5 r5 g5 _
  have B5 : Below W3.heap.size W3 w5 := G3.grown g5 G3.size (fun k hk => by simp [Value.ownBlock] at hk; omega)
  have R5 : Row w5 W3.heap.size 3 1 v5 D.keep.length (ints D.keep) := by simpa using r5
  have R5' := R5
  obtain ⟨A5, c5, rfl, _, _, _, _⟩ := R5'.cells1
  have n5 := (N2.out.below B5).set 4 (.slice A5 D.keep.length c5)
  have u5 : Upd (fun k => k = w.heap.size) w5 (w5.setCell ⟨w.heap.size, 4, none⟩ (.slice A5 D.keep.length c5)) := (Upd.refl _ _).set _ _ (fun _ => rfl)
  have f4 := (N2.out.below B5).free 4 none
  have y4 : w5.cell? ⟨w.heap.size, 4, none⟩ = some (.slice B D.keep.length d) := (N2.out.below B5).cell 4 _ rfl
  obtain ⟨W6, hW6⟩ : ∃ W6, W6 = w5.setCell ⟨w.heap.size, 4, none⟩ (.slice A5 D.keep.length c5) := ⟨_, rfl⟩
  rw [← hW6] at n5 u5
  have hz := SZ.out
  have hz3 := HZ3.out
  have n6 : Blk W6 w.heap.size 70 #[.slice A2 D.logs.length c2, .int .i64 (D.acts : Int), .bool D.down, .int .i64 D.armed, .slice A5 D.keep.length c5] := by simpa using n5
  have bw6 : Below w.heap.size w W6 := (BW3.out.trans (B5.mono BW3.out.size)).trans (u5.below (by have := BW3.out.size; have := B5.size; omega) (fun i hi e => by omega))
  have N6 := Lib.hid n6
  have N16 := Lib.hid ((N12.out.below B5).upd u5 (by omega))
  have R6 := Lib.hid (((R3.out.below B5).upd u5 (fun k e _ hk => by have := (R3.out.lt k e).1; omega)).mono (base' := w.heap.size) (by omega))
  have R7 := Lib.hid ((R5.upd u5 (fun k e _ hk => by have := (R5.lt k e).1; omega)).mono (base' := w.heap.size) (by omega))
  have BW6 := Lib.hid bw6
  have R8 := Lib.hid (show (∀ k, (Value.slice A2 D.logs.length c2).ownBlock = some k → W0.heap.size ≤ k) ∧ (∀ k, (Value.slice A5 D.keep.length c5).ownBlock = some k → W0.heap.size ≤ k) from ⟨fun k e => (R3.out.lt k e).1, fun k e => by have := (R5.lt k e).1; omega⟩)
  have HW6 := Lib.hid hW6
  have hz6 : W0.heap.size ≤ W6.heap.size := Nat.le_trans hz3 (Nat.le_trans B5.size u5.size)
  have HZ6 := Lib.hid hz6
  clear hW6 r5 g5 R5' R5 B5 n5 n6 u5 bw6 G3 c4 hz hz3 hz6 N2 N12 R3 HB3 BW3 HZ3
  go_upto_region 3 with fail
  rw [← HW6.out]
  clear HW6 f4 y4
  have n6 := N6.out
  have q0 := n6.cell 0 _ rfl
  have q1 := n6.cell 1 _ rfl
  have q2 := n6.cell 2 _ rfl
  have q3 := n6.cell 3 _ rfl
  have q4 := n6.cell 4 _ rfl
  have p0 := N16.out.cell 0 _ rfl
  have p1 := N16.out.cell 1 _ rfl
  have p2 := N16.out.cell 2 _ rfl
  have p3 := N16.out.cell 3 _ rfl
  have p4 := N16.out.cell 4 _ rfl
  have g0 := N16.out.free 0 none
  have g1 := N16.out.free 1 none
  have g2 := N16.out.free 2 none
  have g3 := N16.out.free 3 none
  have g4 := N16.out.free 4 none
  clear n6
  simp only [List.getElem_toArray, List.getElem_cons_zero, List.getElem_cons_succ] at q0 q1 q2 q3 q4 p0 p1 p2 p3 p4
  go_wp2_with fail
  try simp only [Exit.inBlock, Exit.then]
  obtain ⟨E10, U10⟩ := five_sets N16.out (.slice A2 D.logs.length c2) (.int .i64 (D.acts : Int)) (.bool D.down) (.int .i64 D.armed) (.slice A5 D.keep.length c5)
  refine bodyPost_ret (results_rd rfl rfl (E10.cell 0 _ rfl) (E10.cell 1 _ rfl) (E10.cell 2 _ rfl) (E10.cell 3 _ rfl) (E10.cell 4 _ rfl)) rfl ?_
  have hz := SZ.out
  have hz6 := HZ6.out
  exact ⟨A2, c2, A5, c5, rfl, R6.out.upd U10 (fun k e _ hk => by have := R8.out.1 k e; omega), R7.out.upd U10 (fun k e _ hk => by have := R8.out.2 k e; omega), BW6.out.trans (U10.below BW6.out.size (fun i hi e => by omega))⟩
end Go.Proofs.Ytimjadjopemefaa
