/- A slice of structs of plain fields among the arguments, opened as a list. -/
import Derived.Test.YtimjadjopemefaaSto
import Derived.Deep.Slices
import Derived.Deep.Strs
import Derived.ProofKit
import Derived.SizedLaws
set_option linter.unusedVariables false
set_option linter.unusedSimpArgs false
namespace Go.Proofs.Ytimjadjopemefaa
open Go.ChangeShapes Go.WideShapes Go.ChangeAt Go.RowKit

theorem flat_get {α : Type} (f : α → List Value) (sz : Nat) (hf : ∀ a, (f a).length = sz) (l : List α) (i j : Nat) (hi : i < l.length) (hj : j < sz) : (l.flatMap f)[i * sz + j]? = (f l[i])[j]? := by
  induction l generalizing i with
  | nil => simp at hi
  | cons a l ih =>
    rw [List.flatMap_cons]
    cases i with
    | zero => rw [Nat.zero_mul, Nat.zero_add, List.getElem?_append_left (by rw [hf]; exact hj)]; rfl
    | succ i =>
      have e : (i + 1) * sz + j = sz + (i * sz + j) := by rw [Nat.add_mul]; omega
      rw [e, List.getElem?_append_right (by rw [hf]; omega), hf, Nat.add_sub_cancel_left]
      exact ih i (by simpa using hi)
theorem flat_len {α : Type} (f : α → List Value) (sz : Nat) (hf : ∀ a, (f a).length = sz) (l : List α) : (l.flatMap f).length = l.length * sz := by
  induction l with
  | nil => simp
  | cons a l ih => rw [List.flatMap_cons, List.length_append, hf, ih, List.length_cons, Nat.add_mul]; omega

/-- The list in a slice of structs. 'hone': what one element reads as. -/
theorem openFlat {α : Type} [Inhabited α] {P : Program} {H : Type} {enc : TypeId × Value → H} {W : World} {base : Nat} {spare : Nat → Bool} {held : Bool} {t e : TypeId} {a : Option Addr} {len cap : Nat} {d : DataW H} {ps : List MemPlace}
    (f : α → List Value) (sz : Nat) (good : α → Prop) (hf : ∀ x, (f x).length = sz) (hu : P.underlying t = some (.slice e)) (hc : P.cellsOf e = sz)
    (hone : ∀ n cs x, DataW.trod enc P W base spare held n e cs = some x → ∃ b, cs = f b ∧ good b)
    (hs : ∀ elems sp, d = .slice elems sp → elems.length * sz ≤ 9223372036854775807)
    (h : DataW.Trod enc P W base spare held t (.slice a len cap) d ps) : ∃ l : List α, len = l.length ∧ Cells W a (l.flatMap f) ∧ ∀ x ∈ l, good x := by
  obtain ⟨fuel, hf'⟩ := h
  rcases Go.Deep.open_slice hu hf' with ⟨hcs, _⟩ | ⟨x, len', cap', m, n, D, Pl, hcs, _, hl, hm, hmm, hx, hel⟩
  · simp [Value.cells] at hcs
    obtain ⟨rfl, rfl, rfl⟩ := hcs
    exact ⟨[], rfl, Cells.nil _ _, fun x hx => by cases hx⟩
  · simp [Value.cells] at hcs
    obtain ⟨rfl, rfl, rfl⟩ := hcs
    have hle : len ≤ m := by rw [hmm]; split <;> omega
    have hbig : len * sz ≤ 9223372036854775807 := by
      have hd : d = .slice ((List.range len).map D) ((List.range (m - len)).map fun j => D (len + j)) := by injection hx
      have := hs _ _ hd
      simpa using this
    have hch : ∀ i, i < len → ∃ b : α, good b ∧ ∀ j, j < sz → W.cell? ((x.add (i * sz)).add j) = (f b)[j]? := by
      intro i hi
      obtain ⟨cs', h1, h2⟩ := hel i (by omega)
      obtain ⟨b, rfl, hb⟩ := hone _ _ _ h2
      rw [hc] at h1
      obtain ⟨_, _, h3⟩ := World.cells?_some h1
      exact ⟨b, hb, h3⟩
    obtain ⟨F, hF⟩ := Go.Deep.choose_lt hch
    refine ⟨(List.range len).map F, by simp, ⟨fun j v hj => ⟨x, rfl, ?_⟩, by rw [flat_len f sz hf]; simpa using hbig⟩, fun b hb => ?_⟩
    · have hjl : j < len * sz := by
        have := (List.getElem?_eq_some_iff.1 hj).1
        rw [flat_len f sz hf] at this; simpa using this
      have hsz : 0 < sz := by
        rcases Nat.eq_zero_or_pos sz with h0 | h0
        · rw [h0, Nat.mul_zero] at hjl; omega
        · exact h0
      have hq : j / sz < len := Nat.div_lt_of_lt_mul (by rw [Nat.mul_comm]; exact hjl)
      have hr : j % sz < sz := Nat.mod_lt _ hsz
      have hsplit : j = j / sz * sz + j % sz := by rw [Nat.mul_comm]; exact (Nat.div_add_mod j sz).symm
      rw [hsplit, flat_get f sz hf _ _ _ (by simpa using hq) hr] at hj
      simp only [List.getElem_map, List.getElem_range] at hj
      have := (hF _ hq).2 _ hr
      rw [hsplit, ← add_add, this, hj]
    · simp only [List.mem_map, List.mem_range] at hb
      obtain ⟨i, hi, rfl⟩ := hb
      exact (hF i hi).1
end Go.Proofs.Ytimjadjopemefaa
