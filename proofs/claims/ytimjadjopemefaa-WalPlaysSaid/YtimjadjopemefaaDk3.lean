/- The walks of disk.New, Arm, Crash. -/
import Derived.Test.YtimjadjopemefaaDk2
import Derived.Deep.Cut
import Derived.IntWalk
set_option linter.unusedVariables false
set_option linter.unusedSimpArgs false
namespace Go.Proofs.Ytimjadjopemefaa
open Go.RowKit

/-- A disk with so many empty logs. -/
def freshD (k : Nat) : DS := ⟨List.replicate k ([], 0), 0, false, 0, []⟩
theorem logs_new {w : World} {L c n : Nat} {base : Nat} (hr : Row w base 126 2 (.slice (some ⟨L, 0, none⟩) n c) n (madeCells (Value.agg #[.slice none 0 0, .int .i64 0]).cells (n * 2)).toList) (h0 : 0 < n) (h16 : n ≤ 16) :
    LogsAt w (fun k => base ≤ k) L (List.replicate n ([], 0)) (fun _ => .slice none 0 0) := by
  have hr' : Row w base 126 2 (.slice (some ⟨L, 0, none⟩) n c) n (madeCells #[.slice none 0 0, .int .i64 0] (n * 2)).toList := hr
  obtain ⟨g, cap, cur, e, hb, hB, h1, h2, hcs, ht⟩ := hr'.blk h0
  cases e
  refine ⟨⟨cur, hB, fun i hi => ?_⟩, fun i hi => by simpa [byts] using Row.nil w 0 5 1, fun i j k _ _ _ hk => (by cases hk), fun i _ k hk => (by cases hk), hb, by simpa using h16⟩
  have hi' : i < n := by simpa using hi
  obtain ⟨m0, m1⟩ := made_logs n i hi'
  have hget : ∀ j, j < n * 2 → cur[j]? = (madeCells #[.slice none 0 0, .int .i64 0] (n * 2))[j]? := fun j hj => by
    rw [← Array.getElem?_toList, ← Array.getElem?_toList, ← ht, List.getElem?_take, if_pos hj]
  rw [hget _ (by omega), hget _ (by omega)]
  refine ⟨m0, ?_⟩
  simpa using m1

set_option maxHeartbeats 1000000 in
theorem dnew_calls (k : Nat) (w : World) (hk : 0 < k) (hk16 : k ≤ 16) :
    Calls Try.prog 36 #[.int .i64 (k : Int)] w fun e w' => ∃ g, e = .returned (.tuple #[.pointer (some ⟨g, 0, none⟩), .int .i64 0]) ∧ IsDisk w' (fun i => w.heap.size ≤ i) g (freshD k) ∧ Below w.heap.size w w' := by
  go_enter Try.func36, Try.ntmps36
  go_wp2_with (with_reducible refine halt_dst 11 ?_)
  refine wpList_maken rfl _ _ 121 rfl w.heap.size 126 (.agg #[.slice none 0 0, .int .i64 0]) 2 32 Try.underlying121 Try.info126 .i64 .i64 _ _ k rfl rfl rfl rfl (by omega) (by simp only [maxLen]; omega) (Nat.le_refl _) ?_
  intro w1 r1 b1 _
  have hl := logs_new r1 hk hk16
  have hb := Blk.new w1 123 #[.slice (some ⟨w.heap.size, 0, none⟩) k k, .int .i64 0, .bool false, .int .i64 0, .slice none 0 0]
  have b2 : Below w.heap.size w (w1.alloc (.cells #[.slice (some ⟨w.heap.size, 0, none⟩) k k, .int .i64 0, .bool false, .int .i64 0, .slice none 0 0] 123)) := b1.alloc b1.size _
  have hl2 := hl.below ((Below.refl _ _).alloc (Nat.le_refl _) (.cells #[.slice (some ⟨w.heap.size, 0, none⟩) k k, .int .i64 0, .bool false, .int .i64 0, .slice none 0 0] 123))
  have hsz := b1.size
  clear r1 b1 hl
  go_wp2
  go_ret2
  refine ⟨w1.heap.size, rfl, ⟨⟨w.heap.size, k, _, .slice none 0 0, by simpa [freshD] using hb, hl2, by simpa [freshD, ints] using Row.nil _ _ _ _, fun k hk => by cases hk⟩, hsz, fun i hi => ?_, by simp [freshD]⟩, b2⟩
  simp [freshD]

set_option maxHeartbeats 1000000 in
theorem dnew_err (n : Int) (w : World) (hn : n < 1 ∨ 16 < n) :
    Calls Try.prog 36 #[.int .i64 n] w fun e w' => e = .returned (.tuple #[.pointer none, .int .i64 70]) ∧ w = w' := by
  by_cases h1 : n < 1
  · go_enter Try.func36, Try.ntmps36
    go_wp2
    go_ret2
    exact ⟨rfl, rfl⟩
  · have h2 : 16 < n := by omega
    go_enter Try.func36, Try.ntmps36
    go_wp2
    go_ret2
    exact ⟨rfl, rfl⟩
end Go.Proofs.Ytimjadjopemefaa
