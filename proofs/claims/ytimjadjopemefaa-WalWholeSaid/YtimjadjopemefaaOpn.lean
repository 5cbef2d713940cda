/- Arguments that are lists of texts, opened: what a walk asks of them. -/
import Derived.Test.YtimjadjopemefaaRs3
import Derived.ProofKit
import Derived.SliceStrings
import Derived.SizedLaws
set_option linter.unusedVariables false
set_option linter.unusedSimpArgs false
namespace Go.Proofs.Ytimjadjopemefaa
open Go.ChangeShapes Go.WideShapes Go.ChangeAt Go.RowKit
theorem openStrs {P : Program} {H : Type} {enc : TypeId × Value → H} {W : World} {base : Nat} {spare : Nat → Bool} {held : Bool} {t e : TypeId} {a : Option Addr} {len cap : Nat} {d : DataW H} {ps : List MemPlace}
    (hu : P.underlying t = some (.slice e)) (he : P.underlying e = some .string) (hc : P.cellsOf e = 1)
    (h : DataW.Trod enc P W base spare held t (.slice a len cap) d ps) : ∃ ls : List (List UInt8), len = ls.length ∧ Cells W a (strs ls) ∧ ∀ l ∈ ls, l.length ≤ 9223372036854775807 := by
  obtain ⟨fuel, hf⟩ := h
  rcases open_strings hu he hc hf with ⟨hcs, _⟩ | ⟨x, l, c, ss, hcs, _, hl, hm, hz, _, hcell, hsz⟩
  · simp [Value.cells] at hcs
    obtain ⟨rfl, rfl, rfl⟩ := hcs
    exact ⟨[], rfl, Cells.nil _ _, fun l hl => by cases hl⟩
  · simp [Value.cells] at hcs
    obtain ⟨rfl, rfl, rfl⟩ := hcs
    have hle : len ≤ ss.length := by rw [hz]; split <;> omega
    have hstr : ∀ s : ByteArray, (Value.string s) = .string (str s.data.toList) := fun s => by cases s; simp [str]
    refine ⟨(ss.take len).map (·.data.toList), by simp; omega, ⟨fun j v hj => ⟨x, rfl, ?_⟩, ?_⟩, fun l hl => ?_⟩
    · have hj2 : j < len := by
        rcases Nat.lt_or_ge j len with h | h
        · exact h
        · rw [List.getElem?_eq_none (by simp [strs]; omega)] at hj; cases hj
      rw [hcell j (by omega)]
      simp only [strs, List.map_map, List.getElem?_map, List.getElem?_take, hj2, if_true, Option.map_eq_some_iff] at hj
      obtain ⟨s, hs, rfl⟩ := hj
      have : ss.getD j ByteArray.empty = s := by rw [List.getD_eq_getElem?_getD, hs]; rfl
      rw [this, hstr s]; rfl
    · unfold maxLen at hm
      rw [strs_length, List.length_map, List.length_take]; omega
    · simp only [List.mem_map] at hl
      obtain ⟨s, hs, rfl⟩ := hl
      have h1 : s.size ≤ maxLen := hsz s (List.mem_of_mem_take hs)
      clear hsz hl hm
      have e1 : s.data.toList.length = s.size := Array.length_toList
      unfold maxLen at h1
      rw [e1]; exact h1
end Go.Proofs.Ytimjadjopemefaa
