/- The reference's disk: New. -/
import Derived.Test.YtimjadjopemefaaRd2
set_option linter.unusedVariables false
set_option linter.unusedSimpArgs false
namespace Go.Proofs.Ytimjadjopemefaa
open Go.RowKit

theorem results_rd2 {fn : Func} {tmps : Array Value} {W : World} {a u : Tmp} {g : Nat} {y0 y1 y2 y3 y4 : Value} (hres : fn.results = #[.cell a 70, .tmp u]) (ha : tmps.getD a undef = .pointer (some ⟨g, 0, Option.none⟩))
    (c0 : W.cell? ⟨g, 0, Option.none⟩ = some y0) (c1 : W.cell? ⟨g, 1, Option.none⟩ = some y1) (c2 : W.cell? ⟨g, 2, Option.none⟩ = some y2) (c3 : W.cell? ⟨g, 3, Option.none⟩ = some y3) (c4 : W.cell? ⟨g, 4, Option.none⟩ = some y4) :
    (results fn tmps).run Try.prog W = .ok (.tuple #[.agg #[y0, y1, y2, y3, y4], tmps.getD u undef]) W := by
  have ha' : tmps[a]?.getD undef = .pointer (some ⟨g, 0, Option.none⟩) := by simpa using ha
  simp [results, hres, ha', c0, c1, c2, c3, c4, go_sem]
theorem made_lgs (n : Nat) : (madeCells (Value.agg #[.string ByteArray.empty, .string ByteArray.empty]).cells (n * 2)).toList = lgs (List.replicate n ([], 0)) := by
  apply List.ext_getElem?
  intro i
  simp only [madeCells, Array.getElem?_toList, Array.getElem?_map, Array.getElem?_range]
  by_cases h : i < n * 2
  · have h1 : i / 2 < (List.replicate n (([] : List UInt8), 0)).length := by simp; omega
    obtain ⟨g0, g1⟩ := lgs_get (List.replicate n ([], 0)) (i / 2) h1
    rcases Nat.mod_two_eq_zero_or_one i with hm | hm
    · rw [show i / 2 * 2 = i by omega] at g0
      rw [g0]
      simp [h, Value.cells, hm]
      rfl
    · rw [show i / 2 * 2 + 1 = i by omega] at g1
      rw [g1]
      simp [h, Value.cells, hm]
      rfl
  · rw [List.getElem?_eq_none (by rw [lgs_length]; simp; omega)]
    simp [h]

set_option maxHeartbeats 4000000 in
set_option maxRecDepth 100000 in
theorem rnew_calls (k : Int) (w : World) :
    Calls Try.prog 44 #[.int .i64 k] w fun e w' => Below w.heap.size w w' ∧ ((k < 1 ∨ 16 < k) ∧ e = .returned (.tuple #[.agg #[.slice none 0 0, .int .i64 0, .bool false, .int .i64 0, .slice none 0 0], .bool false]) ∨
      ∃ n : Nat, k = (n : Int) ∧ 1 ≤ n ∧ n ≤ 16 ∧ ∃ A c, e = .returned (.tuple #[.agg #[.slice A n c, .int .i64 0, .bool false, .int .i64 0, .slice none 0 0], .bool true]) ∧ Row w' w.heap.size 135 2 (.slice A n c) n (lgs (freshD n).logs)) := by
  have n0 := Blk.new w 70 #[.slice none 0 0, .int .i64 0, .bool false, .int .i64 0, .slice none 0 0]
  have HB := Lib.hid (below_one w (.cells #[.slice none 0 0, .int .i64 0, .bool false, .int .i64 0, .slice none 0 0] 70))
  have sz : (w.alloc (.cells #[.slice none 0 0, .int .i64 0, .bool false, .int .i64 0, .slice none 0 0] 70)).heap.size = w.heap.size + 1 := by simp
  have SZ := Lib.hid sz
  clear sz
  go_enter Try.func44, Try.ntmps44
  go_upto_region 1 with fail
  generalize w.alloc (.cells #[.slice none 0 0, .int .i64 0, .bool false, .int .i64 0, .slice none 0 0] 70) = W0 at SZ n0 HB ⊢
  have N0 := Lib.hid n0
  clear n0
  by_cases hbad : k < 1 ∨ 16 < k
  · have p0 := N0.out.cell 0 _ rfl
    have p1 := N0.out.cell 1 _ rfl
    have p2 := N0.out.cell 2 _ rfl
    have p3 := N0.out.cell 3 _ rfl
    have p4 := N0.out.cell 4 _ rfl
    have g0 := N0.out.free 0 none
    have g1 := N0.out.free 1 none
    have g2 := N0.out.free 2 none
    have g3 := N0.out.free 3 none
    have g4 := N0.out.free 4 none
    simp only [List.getElem_toArray, List.getElem_cons_zero, List.getElem_cons_succ] at p0 p1 p2 p3 p4
    have HBAD := Lib.hid hbad
    have hcase : k < 1 ∨ (¬ k < 1 ∧ 16 < k) := by omega
    clear hbad
    rcases hcase with hc | ⟨hc, hc2⟩
    all_goals
      go_wp2_with fail
      try simp only [Exit.inBlock, Exit.then]
      obtain ⟨E10, U10⟩ := five_sets N0.out (.slice none 0 0) (.int .i64 0) (.bool false) (.int .i64 0) (.slice none 0 0)
      refine bodyPost_ret (results_rd2 rfl rfl (E10.cell 0 _ rfl) (E10.cell 1 _ rfl) (E10.cell 2 _ rfl) (E10.cell 3 _ rfl) (E10.cell 4 _ rfl)) rfl ?_
      have hz := HB.out.trans (U10.below HB.out.size (fun i hi e => by omega))
      first
        | exact ⟨hz, .inl ⟨HBAD.out, rfl⟩⟩
        | exact ⟨hz, .inl rfl⟩
  · obtain ⟨n, rfl⟩ : ∃ n : Nat, k = (n : Int) := ⟨k.toNat, by omega⟩
    have hn1 : 1 ≤ n := by omega
    have hn2 : n ≤ 16 := by omega
    have hc : ¬ (n : Int) < 1 := by omega
    have hc2 : ¬ (16 : Int) < (n : Int) := by omega
    clear hbad
    go_upto_region 3 with fail
    go_wp2_with (with_reducible refine halt_dst 12 ?_)
    refine wpList_maken rfl _ _ 68 rfl W0.heap.size 135 (.agg #[.string ByteArray.empty, .string ByteArray.empty]) 2 32 Try.underlying68 Try.info135 .i64 .i64 _ _ n rfl rfl rfl rfl (by omega) (by simp only [maxLen]; omega) (Nat.le_refl _) ?_
    intro w3 r3 b3 _
    rw [made_lgs] at r3
    have r3' := r3
    obtain ⟨A, c, hv, _, _, _, _⟩ := r3'.cells (by rw [lgs_length]; simp; omega)
    cases hv
    have N3 := Lib.hid (N0.out.below b3)
    have R3 := Lib.hid r3
    have HB3 := Lib.hid (HB.out.trans (b3.mono HB.out.size))
    clear r3 r3' b3 N0 HB
    have p0 := N3.out.cell 0 _ rfl
    have p1 := N3.out.cell 1 _ rfl
    have p2 := N3.out.cell 2 _ rfl
    have p3 := N3.out.cell 3 _ rfl
    have p4 := N3.out.cell 4 _ rfl
    have g0 := N3.out.free 0 none
    have g1 := N3.out.free 1 none
    have g2 := N3.out.free 2 none
    have g3 := N3.out.free 3 none
    have g4 := N3.out.free 4 none
    simp only [List.getElem_toArray, List.getElem_cons_zero, List.getElem_cons_succ] at p0 p1 p2 p3 p4
    go_wp2_with fail
    try simp only [Exit.inBlock, Exit.then]
    obtain ⟨E10, U10⟩ := five_sets N3.out (.slice (some ⟨W0.heap.size, 0, none⟩) n n) (.int .i64 0) (.bool false) (.int .i64 0) (.slice none 0 0)
    refine bodyPost_ret (results_rd2 rfl rfl (E10.cell 0 _ rfl) (E10.cell 1 _ rfl) (E10.cell 2 _ rfl) (E10.cell 3 _ rfl) (E10.cell 4 _ rfl)) rfl ?_
    have hz := SZ.out
    exact ⟨HB3.out.trans (U10.below HB3.out.size (fun i hi e => by omega)), .inr ⟨n, rfl, hn1, hn2, _, _, rfl, (R3.out.upd U10 (fun k e _ hk => by have := (R3.out.lt k e).1; omega)).mono (by omega)⟩⟩
end Go.Proofs.Ytimjadjopemefaa
