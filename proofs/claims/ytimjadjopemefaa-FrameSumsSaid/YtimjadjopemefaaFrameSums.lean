/- FrameSums: the walk of the law. -/
import Derived.Test.YtimjadjopemefaaLw1
import Derived.Test.YtimjadjopemefaaReg
set_option linter.unusedVariables false
set_option linter.unusedSimpArgs false
namespace Go.Proofs.Ytimjadjopemefaa
open Go.RowKit
attribute [local go_sem] str_size str_get str_toList str_append str_extract

theorem frameSums_walk (l : List UInt8) (w : World) (hl : l.length ≤ 140737488351232) :
    Calls Try.prog 3 #[.string (str l)] w fun e w' => e = .returned (.bool true) ∧ Below w.heap.size w w' := by
  obtain ⟨k, hk⟩ : ∃ k, l.take 2000 = k := ⟨_, rfl⟩
  have hkl : k.length ≤ 2000 := by rw [← hk]; simp; omega
  have HK := Lib.hid hk
  clear hk
  go_enter Try.func3, Try.ntmps3
  go_wp2_with fail
  refine (bytes_calls l k 2000 w HK.out hl (by decide)).mono ?_
  rintro e w1 ⟨v, rfl, _, ⟨A, c, rfl, hc, hA, _⟩, b1⟩
  have hA2 := Lib.hid hA
  have hconv : ∀ x : Later w1, (convert 22 9 (.slice A k.length c)).run Try.prog x.val = .ok (.string (str k)) x.val := fun x =>
    run_string 22 9 5 Try.underlying22 Try.underlying5 Try.underlying9 A c k (hA.below x.2)
  clear hA
  go_wp2
  refine wp_region_later (by kernel_rfl) (by kernel_rfl) ?_
  go_big_quiet_step (exact later_call (awake_calls _))
  go_big_quiet_step (rfl)
  go_big_quiet_step (rfl)
  go_big_quiet_step (exact later_eq (sum_calls A _ c k _ rfl (hA2.out.below (Subtype.property _))))
  go_big_quiet_step (rfl)
  go_big_quiet_step (rfl)
  go_big_quiet_step (exact later_call (refsum_calls k _ (by omega)))
  go_big_quiet_step (rfl)
  go_big_quiet_step (rfl)
  go_big_quiet_step (rfl)
  refine wpQuiet_nil ?_
  intro w2 b2
  go_wp2
  go_ret
  exact ⟨rfl, b1.trans (b2.mono b1.size)⟩
end Go.Proofs.Ytimjadjopemefaa
