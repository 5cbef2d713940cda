/- FrameSeals: the walk of the law. -/
import Derived.Test.YtimjadjopemefaaLw1
import Derived.OpenShut
set_option linter.unusedVariables false
set_option linter.unusedSimpArgs false
namespace Go.Proofs.Ytimjadjopemefaa
open Go.RowKit
attribute [local go_sem] str_size str_get str_toList str_append str_extract

theorem made_bytes (n : Nat) : (madeCells (Value.int IntKind.u8 0).cells (n * 1)).toList = byts (List.replicate n 0) := by
  rw [Nat.mul_one, show (Value.int IntKind.u8 0).cells = #[.int .u8 0] from rfl, toList_madeCells_one]
  simp [byts, byt]

/-- The end: a load of n noughts is sealed, if it may be. -/
theorem seal_any (n : Nat) (A : Option Addr) (cap : Nat) (w : World) (h2 : n ≤ 65537) (hr : Cells w A (byts (List.replicate n 0))) :
    Calls Try.prog 27 #[.slice A n cap] w fun e w' => Below w.heap.size w w' ∧ ((n ≤ 65536 ∧ ∃ B c, e = .returned (.tuple #[.slice B (8 + n) c, .int .i64 0])) ∨ (65536 < n ∧ e = .returned (.tuple #[.slice none 0 0, .int .i64 30]))) := by
  by_cases h : n ≤ 65536
  · refine (seal_calls A n cap (List.replicate n 0) w (by simp) hr (by simpa using h)).mono ?_
    rintro e w' ⟨v, rfl, hv, hb⟩
    have hl : (byts (frameOf (List.replicate n (0 : UInt8)))).length = 8 + n := by rw [byts_length, frameOf_length]; simp
    rw [List.length_replicate] at hv
    obtain ⟨B, c, rfl, _⟩ := hv.cells1
    exact ⟨hb, .inl ⟨h, B, c, rfl⟩⟩
  · refine (seal_long A n cap w (by omega) (by omega)).mono ?_
    rintro e w' ⟨rfl, rfl⟩
    exact ⟨Below.refl _ _, .inr ⟨by omega, rfl⟩⟩

set_option maxHeartbeats 1000000 in
theorem frameSeals_walk (l : List UInt8) (a1 : Int) (w : World) (hl : l.length ≤ 140737488351232) (w1 : (Lit.int .u8 a1).wf = true) :
    Calls Try.prog 4 #[.string (str l), .int .u8 a1] w fun e w' => e = .returned (.bool true) ∧ Below w.heap.size w w' := by
  have hu : 0 ≤ a1 ∧ a1 < 256 := by
    have := bounds_u8 w1
    omega
  clear w1
  obtain ⟨m, rfl⟩ := Int.eq_ofNat_of_zero_le hu.1
  obtain ⟨k, hk⟩ : ∃ k, l.take 2000 = k := ⟨_, rfl⟩
  have hkl : k.length ≤ 2000 := by rw [← hk]; simp; omega
  have HK := Lib.hid hk
  clear hk
  go_enter Try.func4, Try.ntmps4
  go_wp2_with fail
  refine (bytes_calls l k 2000 w HK.out hl (by decide)).mono ?_
  rintro e w1 ⟨v, rfl, _, ⟨A, c, rfl, hc, hA, _⟩, b1⟩
  go_wp2_with fail
  refine (seal_calls A _ c k w1 rfl hA (by omega)).mono ?_
  rintro e w2 ⟨v2, rfl, r2, b2⟩
  have B2 := b1.trans (b2.mono b1.size)
  have hA2 := hA.below b2
  obtain ⟨A3, c3, rfl, hc3, hA3, _⟩ := BS.of_row r2
  clear b1 b2 hA r2
  go_wp2_with (with_reducible refine halt_dst 22 ?_)
  refine wpList_string rfl (.tmp 21) 22 9 5 rfl Try.underlying22 Try.underlying5 Try.underlying9 A _ c k rfl rfl hA2 ?_
  go_wp2_with fail
  refine (rseal_calls k w2 (by omega)).mono ?_
  rintro e w3 ⟨rfl, b3⟩
  have B3 := B2.trans (b3.mono B2.size)
  have hA4 := hA3.below b3
  clear B2 b3 hA3 hA2
  go_wp2_with fail
  refine (awake_calls w3).mono ?_
  rintro e w4 ⟨rfl, b4⟩
  have B4 := B3.trans (b4.mono B3.size)
  have hA5 := hA4.below b4
  clear B3 b4 hA4
  go_wp2_with (with_reducible refine halt_dst 35 ?_)
  refine wpList_string rfl (.tmp 34) 22 9 5 rfl Try.underlying22 Try.underlying5 Try.underlying9 A3 _ _ (frameOf k) rfl rfl hA5 ?_
  go_wp2_with (with_reducible refine halt_dst 45 ?_)
  have hm3 : m % 3 < 3 := Nat.mod_lt _ (by decide)
  refine wpList_maken rfl _ _ 22 rfl w4.heap.size 5 (.int .u8 0) 1 1 Try.underlying22 Try.info5 .i64 .i64 _ _ (65535 + m % 3) rfl rfl (by omega) (by omega) (by omega) (by simp only [maxLen]; omega) (Nat.le_refl _) ?_
  intro w5 r5 b5 _
  rw [made_bytes] at r5
  have B5 := B4.trans (b5.mono B4.size)
  obtain ⟨_, _, hv5, _, _, hA6, _⟩ := r5.cells1
  cases hv5
  clear B4 b5 r5 hA5
  go_wp2_with fail
  refine (seal_any _ _ _ w5 (by omega) hA6).mono ?_
  rintro e w6 ⟨b6, hq⟩
  have B6 := B5.trans (b6.mono B5.size)
  clear b6 B5 hA6
  rcases hq with ⟨hq, A7, c7, rfl⟩ | ⟨hq, rfl⟩
  · have hd : decide ((65535 : Int) + (m : Int) % 3 ≤ 65536) = true := by simp; omega
    have he : ((8 : Int) + (65535 + (m : Int) % 3) == 65535 + (m : Int) % 3 + 8) = true := by simp; omega
    have hc : (((8 + (65535 + m % 3) : Nat) : Int) == 65535 + (m : Int) % 3 + 8) = true := by simp; omega
    go_wp2
    go_ret
    exact ⟨rfl, B6⟩
  · have hd : decide ((65535 : Int) + (m : Int) % 3 ≤ 65536) = false := by simp; omega
    go_wp2
    go_ret
    exact ⟨rfl, B6⟩
end Go.Proofs.Ytimjadjopemefaa
