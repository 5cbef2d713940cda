/- FrameScans: the walk of the law. -/
import Derived.Test.YtimjadjopemefaaLw1
set_option linter.unusedVariables false
set_option linter.unusedSimpArgs false
namespace Go.Proofs.Ytimjadjopemefaa
open Go.RowKit
attribute [local go_sem] str_size str_get str_toList str_append str_extract

theorem frameScans_walk (l : List UInt8) (w : World) (hl : l.length ≤ 140737488351232) :
    Calls Try.prog 6 #[.string (str l)] w fun e w' => e = .returned (.bool true) ∧ Below w.heap.size w w' := by
  obtain ⟨k, hk⟩ : ∃ k, l.take 3000 = k := ⟨_, rfl⟩
  have hkl : k.length ≤ 3000 := by rw [← hk]; simp; omega
  have HK := Lib.hid hk
  clear hk
  have hsl := scanOf_le k.length k (Nat.le_refl _)
  go_enter Try.func6, Try.ntmps6
  go_wp2_with fail
  refine (bytes_calls l k 3000 w HK.out hl (by decide)).mono ?_
  rintro e w1 ⟨v, rfl, _, ⟨A, c, rfl, hc, hA, _⟩, b1⟩
  go_wp2_with fail
  refine (scan_calls A _ c k w1 rfl hc (by omega) hA).mono ?_
  rintro e w2 ⟨v2, rfl, f2, b2⟩
  have B2 := b1.trans (b2.mono b1.size)
  have hA2 := hA.below b2
  have f2' := f2
  obtain ⟨vs, hrow, _⟩ := f2
  obtain ⟨A3, c3, rfl, _⟩ := hrow.cells1
  clear b1 b2 hA hrow
  go_wp2_with (with_reducible refine halt_dst 17 ?_)
  refine wpList_string rfl (.tmp 16) 22 9 5 rfl Try.underlying22 Try.underlying5 Try.underlying9 A _ c k rfl rfl hA2 ?_
  go_wp2_with fail
  refine (rscan_calls k w2 (by omega)).mono ?_
  rintro e w3 ⟨v4, rfl, r3, b3⟩
  obtain ⟨A4, c4, rfl, _⟩ := r3.cells1
  have B3 := B2.trans (b3.mono B2.size)
  have hA4 := f2'.below b3
  clear B2 b3 f2' hA2
  go_wp2_with fail
  refine (awake_calls w3).mono ?_
  rintro e w4 ⟨rfl, b4⟩
  have B4 := B3.trans (b4.mono B3.size)
  have hA5 := hA4.below b4
  have r4 := r3.below b4
  clear B3 b4 hA4 r3
  go_wp2_with fail
  refine (same_calls _ _ (scanOf k).1 (scanOf k).1 _ _ w4 hA5 r4 (by omega) (by omega)).mono ?_
  rintro e w5 ⟨rfl, j, rfl⟩
  rw [decide_eq_true (rfl : (scanOf k).1 = (scanOf k).1)]
  go_wp2
  go_ret
  exact ⟨rfl, below_drewN B4 _⟩
end Go.Proofs.Ytimjadjopemefaa
