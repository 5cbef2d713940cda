/- Lists of acts on a disk among the arguments, opened. -/
import Derived.Test.YtimjadjopemefaaDkd
import Derived.Test.YtimjadjopemefaaOpl
set_option linter.unusedVariables false
set_option linter.unusedSimpArgs false
namespace Go.Proofs.Ytimjadjopemefaa
open Go.ChangeShapes Go.WideShapes Go.ChangeAt Go.RowKit
instance : Inhabited Act5 := ⟨⟨0, 0, 0, [], none, 0, 0, []⟩⟩
theorem ints_at {P : Program} {H : Type} {enc : TypeId × Value → H} {W : World} {base : Nat} {spare : Nat → Bool} {held : Bool} {t e : TypeId} (hu : P.underlying t = some (.slice e)) (hi : P.underlying e = some (.int .i64)) (hc : P.cellsOf e = 1)
    (n : Nat) (cs : List Value) (x : DataW H × List MemPlace) (h : DataW.trod enc P W base spare held n t cs = some x) :
    ∃ a len cap, ∃ ks : List Int, cs = [.slice a len cap] ∧ len = ks.length ∧ len ≤ cap ∧ Cells W a (ints ks) := by
  rcases Go.Deep.open_slice1 hu hc h with ⟨rfl, _⟩ | ⟨a, len, cap, m, n, V, D, Pl, rfl, hb, hlc, hcm, hmm, _, hel⟩
  · exact ⟨none, 0, 0, [], rfl, rfl, Nat.le_refl _, Cells.nil _ _⟩
  · have hle : len ≤ m := by rw [hmm]; split <;> omega
    have hch : ∀ i, i < len → ∃ z : Int, W.cell? (a.add i) = some (.int .i64 z) := fun i hi' => by
      obtain ⟨h1, h2⟩ := hel i (by omega)
      obtain ⟨z, hz, _, _⟩ := DataW.trod_int hi h2
      simp only [List.cons.injEq, and_true] at hz
      exact ⟨z, by rw [h1, hz]⟩
    obtain ⟨F, hF⟩ := Go.Deep.choose_lt hch
    refine ⟨some a, len, cap, (List.range len).map F, rfl, by simp, hlc, ⟨fun j v hj => ⟨a, rfl, ?_⟩, ?_⟩⟩
    · have hjl : j < len := by have := (List.getElem?_eq_some_iff.1 hj).1; simpa [ints_length] using this
      rw [hF j hjl]
      simp only [ints, List.map_map, List.getElem?_map, List.getElem?_range hjl, Option.map_some] at hj
      exact hj
    · rw [ints_length]; simp only [List.length_map, List.length_range]; unfold maxLen at hcm; omega
theorem trod_struct5 {P : Program} {H : Type} {enc : TypeId × Value → H} {w : World} {base : Nat} {spare : Nat → Bool} {held : Bool} {t : TypeId} {f0 f1 f2 f3 f4 : Field} {fuel : Nat} {cs : List Value} {x : DataW H × List MemPlace} (ht : P.underlying t = some (.struct #[f0, f1, f2, f3, f4])) (h : DataW.trod enc P w base spare held fuel t cs = some x) :
    ∃ y0 y1 y2 y3 y4 n, cs.length = P.cellsOf t ∧ DataW.trod enc P w base spare held n f0.type ((cs.drop f0.offset).take (P.cellsOf f0.type)) = some y0 ∧
      DataW.trod enc P w base spare held n f1.type ((cs.drop f1.offset).take (P.cellsOf f1.type)) = some y1 ∧ DataW.trod enc P w base spare held n f2.type ((cs.drop f2.offset).take (P.cellsOf f2.type)) = some y2 ∧
      DataW.trod enc P w base spare held n f3.type ((cs.drop f3.offset).take (P.cellsOf f3.type)) = some y3 ∧ DataW.trod enc P w base spare held n f4.type ((cs.drop f4.offset).take (P.cellsOf f4.type)) = some y4 := by
  obtain ⟨xs, n, _, _, hl, hlen, hf⟩ := DataW.trod_struct ht h
  match xs, hlen with
  | [y0, y1, y2, y3, y4], _ => exact ⟨y0, y1, y2, y3, y4, n, hl, by simpa using hf 0 f0 rfl, by simpa using hf 1 f1 rfl, by simpa using hf 2 f2 rfl, by simpa using hf 3 f3 rfl, by simpa using hf 4 f4 rfl⟩
theorem openFive {P : Program} {H : Type} {enc : TypeId × Value → H} {W : World} {base : Nat} {spare : Nat → Bool} {held : Bool} {e ti : TypeId} {f0 f1 f2 f3 f4 : Field}
    (hu : P.underlying e = some (.struct #[f0, f1, f2, f3, f4])) (h0 : P.underlying f0.type = some (.int .i64)) (h1 : P.underlying f1.type = some (.int .i64)) (h2 : P.underlying f2.type = some (.int .i64)) (h3 : P.underlying f3.type = some .string) (h4 : P.underlying f4.type = some (.slice ti)) (hi : P.underlying ti = some (.int .i64)) (hci : P.cellsOf ti = 1)
    (hc : P.cellsOf e = 5) (hc0 : P.cellsOf f0.type = 1) (hc1 : P.cellsOf f1.type = 1) (hc2 : P.cellsOf f2.type = 1) (hc3 : P.cellsOf f3.type = 1) (hc4 : P.cellsOf f4.type = 1)
    (ho0 : f0.offset = 0) (ho1 : f1.offset = 1) (ho2 : f2.offset = 2) (ho3 : f3.offset = 3) (ho4 : f4.offset = 4) (n : Nat) (cs : List Value) (x : DataW H × List MemPlace) (h : DataW.trod enc P W base spare held n e cs = some x) :
    ∃ a : Act5, cs = act5 a ∧ GoodAct W a := by
  obtain ⟨y0, y1, y2, y3, y4, m, hl, g0, g1, g2, g3, g4⟩ := trod_struct5 hu h
  rw [hc0, ho0] at g0
  rw [hc1, ho1] at g1
  rw [hc2, ho2] at g2
  rw [hc3, ho3] at g3
  rw [hc4, ho4] at g4
  obtain ⟨a, ha, _, _⟩ := DataW.trod_int h0 g0
  obtain ⟨b, hb, _, _⟩ := DataW.trod_int h1 g1
  obtain ⟨c, hcc, _, _⟩ := DataW.trod_int h2 g2
  obtain ⟨s, hs, _, _⟩ := DataW.trod_string h3 g3
  obtain ⟨K, len, cap, ks, hk, e1, e2, e3⟩ := ints_at h4 hi hci _ _ _ g4
  obtain ⟨l, rfl⟩ := str_all s
  rw [hc] at hl
  match cs, hl with
  | [p, q, r, u, v], _ =>
    simp at ha hb hcc hs hk
    subst ha hb hcc hs hk
    exact ⟨⟨a, b, c, l, K, len, cap, ks⟩, rfl, e1, e2, e3⟩
set_option maxRecDepth 100000 in
theorem openActs {H : Type} {enc : TypeId × Value → H} {W : World} {base : Nat} {spare : Nat → Bool} {held : Bool} {a : Option Addr} {len cap : Nat} {d : DataW H} {ps : List MemPlace}
    (h : DataW.Trod enc Try.prog W base spare held 67 (.slice a len cap) d ps) (hs : ∀ elems sp, d = .slice elems sp → (elems.length + sp.length) * Try.prog.bytesOf 62 ≤ reachBytes) :
    ∃ l : List Act5, len = l.length ∧ Cells W a (acs l) ∧ ∀ x ∈ l, GoodAct W x :=
  openFlat act5 5 (GoodAct W) (fun _ => rfl) Try.underlying67 (by kernel_rfl)
    (fun n cs x hx => openFive Try.underlying62 Try.underlying3 Try.underlying3 Try.underlying3 Try.underlying9 Try.underlying60 Try.underlying3 (by kernel_rfl) (by kernel_rfl) (by kernel_rfl) (by kernel_rfl) (by kernel_rfl) (by kernel_rfl) (by kernel_rfl) rfl rfl rfl rfl rfl n cs x hx)
    (fun el sp e => by
      have h1 := hs el sp e
      have h2 := reachBytes_lt
      have h3 : Try.prog.bytesOf 62 = 64 := by kernel_rfl
      rw [h3] at h1
      omega) h
set_option maxRecDepth 100000 in
theorem openKeep {H : Type} {enc : TypeId × Value → H} {W : World} {base : Nat} {spare : Nat → Bool} {held : Bool} {a : Option Addr} {len cap : Nat} {d : DataW H} {ps : List MemPlace}
    (h : DataW.Trod enc Try.prog W base spare held 60 (.slice a len cap) d ps) : ∃ ks : List Int, len = ks.length ∧ len ≤ cap ∧ Cells W a (ints ks) := by
  obtain ⟨fuel, hf⟩ := h
  obtain ⟨a', len', cap', ks, e, h1, h2, h3⟩ := ints_at Try.underlying60 Try.underlying3 (by kernel_rfl) _ _ _ hf
  simp [Value.cells] at e
  obtain ⟨rfl, rfl, rfl⟩ := e
  exact ⟨ks, h1, h2, h3⟩
end Go.Proofs.Ytimjadjopemefaa
