/- How a law opens its wal. -/
import Derived.Test.YtimjadjopemefaaWalOpens
set_option linter.unusedVariables false
set_option linter.unusedSimpArgs false
namespace Go.Proofs.Ytimjadjopemefaa
open Go.RowKit

theorem open_fresh {k i : Nat} (hi : i < k) : openErrD (freshD k) (i : Int) = 0 ∧ openD (freshD k) (i : Int) = freshD k ∧ quietD (freshD k) (i : Int) ∧ scanOf ((freshD k).log (i : Int)).1 = ([], 0) := by
  have hL := live_fresh hi
  obtain ⟨e1, D', e2, _, _, _, _, e3⟩ := hL.open
  have hs : (scanOf []).2 = 0 := by rw [scan_nil]
  refine ⟨e1, ?_, hL.quiet (by rw [hs]; rfl) rfl, by rw [hL.logq]; exact scan_nil⟩
  rw [e2]
  exact e3 ⟨by rw [hs]; simp, by rw [hs]; simp⟩
/-- A new disk's log, opened: the wal, and nothing else is touched. -/
theorem wopen_fresh {w0 w : World} {S : Nat → Prop} {g k i : Nat} (h : Held w0 w S g (freshD k)) (hi : i < k) :
    Calls Try.prog 54 #[.pointer (some ⟨g, 0, none⟩), .int .i64 (i : Int)] w fun e w' => ∃ S' gw A c, e = .returned (.tuple #[.pointer (some ⟨gw, 0, none⟩), .slice A 0 c, .int .i64 0]) ∧ HW w0 w' S' g gw (freshD k) ⟨0, 0, (i : Int), false⟩ ∧ Grew S S' w w' ∧ w.heap.size ≤ gw := by
  obtain ⟨e1, e2, e3, e4⟩ := open_fresh hi
  refine (wopen_calls h (i : Int) (by simp [freshD])).mono ?_
  intro e w' ho
  obtain ⟨S', gw, v, rfl, h1, h2, h3, h4⟩ := opened_ok h.below.size ho e1 e2 (ls := []) (k := 0) e4
  obtain ⟨vs, hr, _⟩ := h4.row
  obtain ⟨A, c, rfl, _, _, _, _⟩ := hr.cells1
  exact ⟨S', gw, A, c, rfl, h1, h2, h3⟩
/-- A wal that isn't the one that is used. -/
theorem wfewS_calls (s : List UInt8) (w : World) :
    Calls Try.prog 57 #[.agg #[.int .i64 0, .int .i64 0, .string (str s), .slice none 0 0]] w fun e w' => e = .returned (.agg #[.int .i64 0, .int .i64 0, .string (str (s.take 1000)), .slice none 0 0]) ∧ Below w.heap.size w w' :=
  wfew_calls 0 0 s none 0 0 w (Nat.le_refl _)
end Go.Proofs.Ytimjadjopemefaa
