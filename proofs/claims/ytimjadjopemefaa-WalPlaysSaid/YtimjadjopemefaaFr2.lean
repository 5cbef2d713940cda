/- The walks of frame.Seal, Open and Scan. -/
import Derived.Test.YtimjadjopemefaaFr1
set_option linter.unusedVariables false
set_option linter.unusedSimpArgs false
namespace Go.Proofs.Ytimjadjopemefaa
open Go.RowKit

/-- The document's frame of a load. -/
def frameOf (l : List UInt8) : List UInt8 := be4 l.length ++ be4 (crcSum (be4 l.length ++ l)).toNat ++ l
theorem be4_length (n : Nat) : (be4 n).length = 4 := rfl
theorem frameOf_length (l : List UInt8) : (frameOf l).length = 8 + l.length := by simp [frameOf, be4_length]; omega

theorem seal_long (A : Option Addr) (n cap : Nat) (w : World) (hn : 65536 < n) (hm : n ≤ 9223372036854775807) :
    Calls Try.prog 27 #[.slice A n cap] w fun e w' => e = .returned (.tuple #[.slice none 0 0, .int .i64 30]) ∧ w = w' := by
  go_enter Try.func27, Try.ntmps27
  go_wp2
  go_ret2
  exact ⟨rfl, rfl⟩

set_option maxHeartbeats 1000000 in
theorem seal_calls (A : Option Addr) (n cap : Nat) (l : List UInt8) (w : World) (hn : n = l.length) (hr : Cells w A (byts l)) (h : l.length ≤ 65536) :
    Calls Try.prog 27 #[.slice A n cap] w fun e w' => ∃ v, e = .returned (.tuple #[v, .int .i64 0]) ∧ Row w' w.heap.size 5 1 v (8 + l.length) (byts (frameOf l)) ∧ Below w.heap.size w w' := by
  subst hn
  go_enter Try.func27, Try.ntmps27
  go_wp2_with (at_make; refine wpList_make0 rfl _ (.tmp 10) 22 rfl w.heap.size 5 (.int .u8 0) 1 1 Try.underlying22 Try.info5 .i64 .i64 _ (8 + l.length) rfl rfl (by omega) (by omega) (by simp only [maxLen]; omega) (Nat.le_refl _) ?_)
  intro w1 r1 b1
  go_wp2_with fail
  refine (four_calls w.heap.size _ [] 0 l.length w1 rfl (by omega) r1 b1.size (by simp)).mono ?_
  rintro e w2 ⟨v2, rfl, r2, g2, _⟩
  have b2 : Below w.heap.size w w2 := b1.grown g2 b1.size (fun k hk => by simp [Value.ownBlock] at hk; omega)
  clear b1 r1 g2
  simp only [List.nil_append, Nat.zero_add] at r2
  obtain ⟨A2, c2, rfl, _, _, hc2, _⟩ := r2.cells1
  go_wp2_with fail
  refine (both_calls _ _ _ _ _ _ (be4 l.length) l w2 rfl hc2 rfl (hr.below b2)).mono ?_
  rintro e w3 ⟨rfl, rfl⟩
  clear hc2
  go_wp2_with fail
  refine (four_calls w.heap.size _ (be4 l.length) 4 (crcSum (be4 l.length ++ l)).toNat w2 rfl (crcSum (be4 l.length ++ l)).isLt r2 b2.size (by simp [be4_length])).mono ?_
  rintro e w3 ⟨v3, rfl, r3, g3, _⟩
  have b3 : Below w.heap.size w w3 := b2.grown g3 b2.size (fun k hk => (r2.lt k hk).1)
  clear b2 r2 g3
  go_wp2_with (at_builtin; refine wpList_append_row rfl (.tmp 21) (.tmp 22) 22 rfl w.heap.size 5 (.int .u8 0) 1 1 Try.underlying22 Try.info5 rfl (by decide) _ _ _ rfl r3 A l.length cap (byts l) rfl ?c1 (hr.below b3) (byts_one l) ?c2 ?c3 b3.size ?_)
  case c1 => simp [byts_length]
  case c2 => simp only [maxLen]; omega
  case c3 => omega
  intro v4 w4 r4 g4 _
  have b4 : Below w.heap.size w w4 := b3.grown g4 b3.size (fun k hk => (r3.lt k hk).1)
  have R4 : Row w4 w.heap.size 5 1 v4 (8 + l.length) (byts (frameOf l)) := by
    rw [frameOf, byts_append]; exact r4
  clear b3 r3 g4 r4
  go_wp2
  go_ret2
  exact ⟨_, rfl, R4, b4⟩
end Go.Proofs.Ytimjadjopemefaa
