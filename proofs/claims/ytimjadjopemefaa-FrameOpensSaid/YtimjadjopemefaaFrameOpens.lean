/- FrameOpens: the walk of the law. -/
import Derived.Test.YtimjadjopemefaaLw1
set_option linter.unusedVariables false
set_option linter.unusedSimpArgs false
namespace Go.Proofs.Ytimjadjopemefaa
open Go.RowKit
attribute [local go_sem] str_size str_get str_toList str_append str_extract

theorem frameOpens_walk (l : List UInt8) (w : World) (hl : l.length ≤ 140737488351232) :
    Calls Try.prog 5 #[.string (str l)] w fun e w' => e = .returned (.bool true) ∧ Below w.heap.size w w' := by
  obtain ⟨k, hk⟩ : ∃ k, l.take 3000 = k := ⟨_, rfl⟩
  have hkl : k.length ≤ 3000 := by rw [← hk]; simp; omega
  have HK := Lib.hid hk
  clear hk
  go_enter Try.func5, Try.ntmps5
  go_wp2_with fail
  refine (bytes_calls l k 3000 w HK.out hl (by decide)).mono ?_
  rintro e w1 ⟨v, rfl, _, ⟨A, c, rfl, hc, hA, _⟩, b1⟩
  go_wp2_with fail
  refine (open_calls A _ c k w1 rfl hc hA).mono ?_
  rintro e w2 ⟨v2, rfl, f2, b2⟩
  have B2 := b1.trans (b2.mono b1.size)
  have hA2 := hA.below b2
  obtain ⟨A3, rfl, hA3, _⟩ := f2
  clear b1 b2 hA
  go_wp2_with (with_reducible refine halt_dst 20 ?_)
  refine wpList_string rfl (.tmp 19) 22 9 5 rfl Try.underlying22 Try.underlying5 Try.underlying9 A _ c k rfl rfl hA2 ?_
  go_wp2_with fail
  refine (ropen_calls k w2 (by omega)).mono ?_
  rintro e w3 ⟨rfl, b3⟩
  have B3 := B2.trans (b3.mono B2.size)
  have hA4 := hA3.below b3
  clear B2 b3 hA3 hA2
  go_wp2_with fail
  refine (awake_calls w3).mono ?_
  rintro e w4 ⟨rfl, b4⟩
  have B4 := B3.trans (b4.mono B3.size)
  have hA5 := hA4.below b4
  clear B3 b4 hA4
  go_wp2_with (with_reducible refine halt_dst 28 ?_)
  refine wpList_string rfl (.tmp 27) 22 9 5 rfl Try.underlying22 Try.underlying5 Try.underlying9 A3 _ _ (openLoad k) rfl rfl hA5 ?_
  go_wp2
  go_ret
  exact ⟨rfl, B4⟩
end Go.Proofs.Ytimjadjopemefaa
