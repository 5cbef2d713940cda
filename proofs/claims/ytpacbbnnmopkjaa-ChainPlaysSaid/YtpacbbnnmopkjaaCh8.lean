/- The walk of the law's awake. -/
import Derived.Test.YtpacbbnnmopkjaaCh7
set_option linter.unusedVariables false
set_option linter.unusedSimpArgs false
namespace Go.Proofs.Ytpacbbnnmopkjaa
open Go.RowKit

/-- What a chain holds lies in memory. -/
theorem IsChain.tight {w : World} {S : Nat → Prop} {g : Nat} {vs : List (Int × Int)} {m : Int} (h : IsChain w S g vs m) : IsChain w (fun i => S i ∧ i < w.heap.size) g vs m := by
  obtain ⟨v, h1, h2, h3⟩ := h.at_
  exact ⟨⟨v, h1, h2, fun k hk => ⟨h3 k hk, (h2.lt k hk).2⟩⟩, ⟨h.foot, h1.lt⟩, h.small⟩

set_option maxHeartbeats 1000000 in
set_option maxRecDepth 100000 in
theorem awake_calls (w : World) : Calls Try.prog 15 #[] w fun e w' => e = .returned (.bool true) ∧ Below w.heap.size w w' := by
  go_enter Try.func15, Try.ntmps15
  go_wp2_with fail
  refine (new_calls w).mono ?_
  rintro e w1 ⟨rfl, h1, B1⟩
  go_wp2_with fail
  refine (put_calls _ _ [] 0 5 100 w1 h1).mono ?_
  rintro e w2 ⟨rfl, h2, u2⟩
  rw [show putErr [] 0 5 = 0 by decide]
  rw [show putVer [] 0 5 100 = [(5, 100)] by decide] at h2
  have h2 := wider h2 B1.size
  have B2 := upd_below B1 u2 B1.size
  clear h1 u2 B1
  go_wp2_with fail
  refine (put_calls _ _ [(5, 100)] 0 9 80 w2 h2).mono ?_
  rintro e w3 ⟨rfl, h3, u3⟩
  rw [show putErr [(5, 100)] 0 9 = 0 by decide]
  rw [show putVer [(5, 100)] 0 9 80 = [(5, 100), (9, 80)] by decide] at h3
  have h3 := wider h3 B2.size
  have B3 := upd_below B2 u3 B2.size
  clear h2 u3 B2
  go_wp2_with fail
  refine (put_calls _ _ [(5, 100), (9, 80)] 0 9 1 w3 h3).mono ?_
  rintro e w4 ⟨rfl, h4, u4⟩
  rw [show putErr [(5, 100), (9, 80)] 0 9 = 111 by decide]
  rw [show putVer [(5, 100), (9, 80)] 0 9 1 = [(5, 100), (9, 80)] by decide] at h4
  have h4 := wider h4 B3.size
  have B4 := upd_below B3 u4 B3.size
  have hr : Rises [(5, 100), (9, 80)] := by simp [Rises]
  clear h3 u4 B3
  go_wp2_with fail
  refine (get_calls _ _ [(5, 100), (9, 80)] 0 4 w4 h4 hr).mono ?_
  rintro e w5 ⟨rfl, b5⟩
  rw [show getErr [(5, 100), (9, 80)] 0 4 = 114 by decide, show getVer [(5, 100), (9, 80)] 0 4 = (0, 0) by decide, show vagg (0, 0) = .agg #[.int .i64 0, .int .i64 0] from rfl]
  have h5 := h4.below b5
  have B5 := B4.trans (b5.mono B4.size)
  have h5' := h5.below (Below.alloc (Below.refl _ _) (Nat.le_refl _) (.cells #[.int .i64 0, .int .i64 0] 34))
  have B5' := B5.alloc B5.size (.cells #[.int .i64 0, .int .i64 0] 34)
  clear h4 b5 B4 h5 B5
  go_wp2_with fail
  refine (get_calls _ _ [(5, 100), (9, 80)] 0 8 _ h5' hr).mono ?_
  rintro e w6 ⟨rfl, b6⟩
  rw [show getErr [(5, 100), (9, 80)] 0 8 = 0 by decide, show getVer [(5, 100), (9, 80)] 0 8 = (5, 100) by decide, show vagg (5, 100) = .agg #[.int .i64 5, .int .i64 100] from rfl]
  have h6 := (h5'.below b6).tight
  have B6 := B5'.trans (b6.mono B5'.size)
  have h6' := h6.below (Below.alloc (Below.refl _ _) (Nat.le_refl _) (.cells #[.int .i64 5, .int .i64 100] 34))
  have B6' := B6.alloc B6.size (.cells #[.int .i64 5, .int .i64 100] 34)
  have X6 := Blk.new w6 34 #[.int .i64 5, .int .i64 100]
  clear h5' b6 B5' h6
  go_wp2_with fail
  refine (prune_calls _ _ [(5, 100), (9, 80)] 0 9 _ h6' hr).mono ?_
  rintro e w7 ⟨rfl, h7, u7⟩
  rw [show pruneErr 9 = 0 by decide]
  rw [show pruneVer [(5, 100), (9, 80)] 0 9 = [(9, 80)] by decide, show pruneMark 0 9 = 9 by decide] at h7
  have X7 := X6.upd u7 (fun e => absurd e.2 (Nat.lt_irrefl _))
  have B7 : Below w.heap.size w w7 := B6'.trans (u7.below B6'.size (fun i hi e => by have := e.1; omega))
  have hr2 : Rises [((9 : Int), (80 : Int))] := by simp [Rises]
  clear h6' u7 B6 B6' X6
  go_wp2_with fail
  refine (list_calls _ _ [(9, 80)] 9 w7 h7).mono ?_
  rintro e w8 ⟨v8, rfl, r8, b8⟩
  have h8 := h7.below b8
  have B8 := B7.trans (b8.mono B7.size)
  have X8 := X7.below b8
  obtain ⟨A8, c8, rfl, _, _, _, _⟩ := r8.cells (by rw [vcs_length]; decide)
  clear h7 b8 B7 r8 X7
  go_wp2_with fail
  refine (get_calls _ _ [(9, 80)] 9 8 w8 h8 hr2).mono ?_
  rintro e w9 ⟨rfl, b9⟩
  rw [show getErr [(9, 80)] 9 8 = 113 by decide, show getVer [(9, 80)] 9 8 = (0, 0) by decide, show vagg (0, 0) = .agg #[.int .i64 0, .int .i64 0] from rfl]
  have b9' : Below w8.heap.size w8 (w9.alloc (.cells #[.int .i64 0, .int .i64 0] 34)) := b9.alloc b9.size _
  have h9 := h8.below b9'
  have B9 := B8.trans (b9'.mono B8.size)
  have X9 := X8.below b9'
  clear h8 b9 B8 X8 b9'
  go_wp2_with fail
  refine (last_calls _ _ [(9, 80)] 9 _ h9).mono ?_
  rintro e wa ⟨rfl, ba⟩
  rw [show ([((9 : Int), (80 : Int))].getLast?.getD (0, 0)).1 = 9 from rfl, show ([((9 : Int), (80 : Int))].getLast?.getD (0, 0)).2 = 80 from rfl, show decide (0 < [((9 : Int), (80 : Int))].length) = true from rfl]
  have hb := h9.below (ba.alloc ba.size (.cells #[.int .i64 9, .int .i64 80] 34))
  have Bb := B9.trans ((ba.alloc ba.size (.cells #[.int .i64 9, .int .i64 80] 34)).mono B9.size)
  have Xb := X9.below (ba.alloc ba.size (.cells #[.int .i64 9, .int .i64 80] 34))
  have Yb := Blk.new wa 34 #[.int .i64 9, .int .i64 80]
  have x1 : (wa.alloc (.cells #[.int .i64 9, .int .i64 80] 34)).cell? ⟨w6.heap.size, 1, none⟩ = some (.int .i64 100) := Xb.cell 1 _ rfl
  have y1 : (wa.alloc (.cells #[.int .i64 9, .int .i64 80] 34)).cell? ⟨wa.heap.size, 1, none⟩ = some (.int .i64 80) := Yb.cell 1 _ rfl
  clear h9 ba B9 X9
  go_wp2_with fail
  refine (mark_calls _ _ [(9, 80)] 9 _ hb).mono ?_
  rintro e wc ⟨rfl, rfl⟩
  go_wp2
  go_ret
  exact ⟨rfl, Bb⟩
end Go.Proofs.Ytpacbbnnmopkjaa
