/- Transfers, calls on a pledge and lists of these among the arguments, opened. -/
import Derived.Test.YtpacbbnnmopkjaaPgl
import Derived.Test.YtpacbbnnmopkjaaOpl
import Derived.ChangeSame
import Derived.OpenShut
set_option linter.unusedVariables false
set_option linter.unusedSimpArgs false
namespace Go.Proofs.Ytpacbbnnmopkjaa
open Go.ChangeShapes Go.WideShapes Go.ChangeAt Go.RowKit
def sd4 (s : Sd) : List Value := [.int .i64 s.kind, .bool s.pays, .bool s.yes, .int .i64 s.t]
def sds (l : List Sd) : List Value := l.flatMap sd4
instance : Inhabited Sd := ⟨⟨0, false, false, 0⟩⟩
theorem trod_struct4 {P : Program} {H : Type} {enc : TypeId × Value → H} {w : World} {base : Nat} {spare : Nat → Bool} {held : Bool} {t : TypeId} {f0 f1 f2 f3 : Field} {fuel : Nat} {cs : List Value} {x : DataW H × List MemPlace} (ht : P.underlying t = some (.struct #[f0, f1, f2, f3])) (h : DataW.trod enc P w base spare held fuel t cs = some x) :
    ∃ y0 y1 y2 y3 n, cs.length = P.cellsOf t ∧ DataW.trod enc P w base spare held n f0.type ((cs.drop f0.offset).take (P.cellsOf f0.type)) = some y0 ∧
      DataW.trod enc P w base spare held n f1.type ((cs.drop f1.offset).take (P.cellsOf f1.type)) = some y1 ∧ DataW.trod enc P w base spare held n f2.type ((cs.drop f2.offset).take (P.cellsOf f2.type)) = some y2 ∧
      DataW.trod enc P w base spare held n f3.type ((cs.drop f3.offset).take (P.cellsOf f3.type)) = some y3 := by
  obtain ⟨xs, n, _, _, hl, hlen, hf⟩ := DataW.trod_struct ht h
  match xs, hlen with
  | [y0, y1, y2, y3], _ => exact ⟨y0, y1, y2, y3, n, hl, by simpa using hf 0 f0 rfl, by simpa using hf 1 f1 rfl, by simpa using hf 2 f2 rfl, by simpa using hf 3 f3 rfl⟩
theorem four_ints {P : Program} {H : Type} {enc : TypeId × Value → H} {W : World} {base : Nat} {spare : Nat → Bool} {held : Bool} {e : TypeId} {f0 f1 f2 f3 : Field}
    (hu : P.underlying e = some (.struct #[f0, f1, f2, f3])) (h0 : P.underlying f0.type = some (.int .i64)) (h1 : P.underlying f1.type = some (.int .i64)) (h2 : P.underlying f2.type = some (.int .i64)) (h3 : P.underlying f3.type = some (.int .i64))
    (hc : P.cellsOf e = 4) (hc0 : P.cellsOf f0.type = 1) (hc1 : P.cellsOf f1.type = 1) (hc2 : P.cellsOf f2.type = 1) (hc3 : P.cellsOf f3.type = 1)
    (ho0 : f0.offset = 0) (ho1 : f1.offset = 1) (ho2 : f2.offset = 2) (ho3 : f3.offset = 3) (n : Nat) (cs : List Value) (x : DataW H × List MemPlace) (h : DataW.trod enc P W base spare held n e cs = some x) :
    ∃ t : Tr, cs = [.int .i64 t.id, .int .i64 t.frm, .int .i64 t.to, .int .i64 t.n] := by
  obtain ⟨y0, y1, y2, y3, m, hl, g0, g1, g2, g3⟩ := trod_struct4 hu h
  rw [hc0, ho0] at g0
  rw [hc1, ho1] at g1
  rw [hc2, ho2] at g2
  rw [hc3, ho3] at g3
  obtain ⟨a, ha, _, _⟩ := DataW.trod_int h0 g0
  obtain ⟨b, hb, _, _⟩ := DataW.trod_int h1 g1
  obtain ⟨c, hcc, _, _⟩ := DataW.trod_int h2 g2
  obtain ⟨d, hd, _, _⟩ := DataW.trod_int h3 g3
  rw [hc] at hl
  match cs, hl with
  | [p, q, r, s], _ =>
    simp at ha hb hcc hd
    subst ha hb hcc hd
    exact ⟨⟨a, b, c, d⟩, rfl⟩
theorem four_said {P : Program} {H : Type} {enc : TypeId × Value → H} {W : World} {base : Nat} {spare : Nat → Bool} {held : Bool} {e : TypeId} {f0 f1 f2 f3 : Field}
    (hu : P.underlying e = some (.struct #[f0, f1, f2, f3])) (h0 : P.underlying f0.type = some (.int .i64)) (h1 : P.underlying f1.type = some .bool) (h2 : P.underlying f2.type = some .bool) (h3 : P.underlying f3.type = some (.int .i64))
    (hc : P.cellsOf e = 4) (hc0 : P.cellsOf f0.type = 1) (hc1 : P.cellsOf f1.type = 1) (hc2 : P.cellsOf f2.type = 1) (hc3 : P.cellsOf f3.type = 1)
    (ho0 : f0.offset = 0) (ho1 : f1.offset = 1) (ho2 : f2.offset = 2) (ho3 : f3.offset = 3) (n : Nat) (cs : List Value) (x : DataW H × List MemPlace) (h : DataW.trod enc P W base spare held n e cs = some x) :
    ∃ s : Sd, cs = sd4 s := by
  obtain ⟨y0, y1, y2, y3, m, hl, g0, g1, g2, g3⟩ := trod_struct4 hu h
  rw [hc0, ho0] at g0
  rw [hc1, ho1] at g1
  rw [hc2, ho2] at g2
  rw [hc3, ho3] at g3
  obtain ⟨a, ha, _, _⟩ := DataW.trod_int h0 g0
  obtain ⟨b, hb, _⟩ := DataW.trod_bool h1 g1
  obtain ⟨c, hcc, _⟩ := DataW.trod_bool h2 g2
  obtain ⟨d, hd, _, _⟩ := DataW.trod_int h3 g3
  rw [hc] at hl
  match cs, hl with
  | [p, q, r, s], _ =>
    simp at ha hb hcc hd
    subst ha hb hcc hd
    exact ⟨⟨a, b, c, d⟩, rfl⟩
theorem agg_of {cs : Array Value} {l : List Value} (h : cs.toList = l) : Value.agg cs = .agg l.toArray := by rw [← h]
set_option maxRecDepth 100000 in
theorem openTr {H : Type} {enc : TypeId × Value → H} {W : World} {r : Reach} {b0 base : Nat} {spare : Nat → Bool} {held : Bool} {v : Value} {d : DataW H} {ps : List MemPlace}
    (h : DataW.Trod enc Try.prog W base spare held 53 v d ps) (hval : Value.okWide Try.prog W r b0 53 v) : ∃ x : Tr, v = trVal x := by
  obtain ⟨cs, rfl, hcs⟩ := okWide_struct Try.underlying53 hval
  obtain ⟨fuel, hf⟩ := h
  obtain ⟨x, hx⟩ := four_ints Try.underlying53 Try.underlying3 Try.underlying3 Try.underlying3 Try.underlying2 (by kernel_rfl) (by kernel_rfl) (by kernel_rfl) (by kernel_rfl) (by kernel_rfl) rfl rfl rfl rfl _ _ _ hf
  exact ⟨x, agg_of (by simpa [Value.cells] using hx)⟩
set_option maxRecDepth 100000 in
theorem openSaid {H : Type} {enc : TypeId × Value → H} {W : World} {r : Reach} {b0 base : Nat} {spare : Nat → Bool} {held : Bool} {v : Value} {d : DataW H} {ps : List MemPlace}
    (h : DataW.Trod enc Try.prog W base spare held 67 v d ps) (hval : Value.okWide Try.prog W r b0 67 v) : ∃ s : Sd, v = .agg (sd4 s).toArray := by
  obtain ⟨cs, rfl, hcs⟩ := okWide_struct Try.underlying67 hval
  obtain ⟨fuel, hf⟩ := h
  obtain ⟨x, hx⟩ := four_said Try.underlying67 Try.underlying3 Try.underlying4 Try.underlying4 Try.underlying2 (by kernel_rfl) (by kernel_rfl) (by kernel_rfl) (by kernel_rfl) (by kernel_rfl) rfl rfl rfl rfl _ _ _ hf
  exact ⟨x, agg_of (by simpa [Value.cells] using hx)⟩
set_option maxRecDepth 100000 in
theorem openSaids {H : Type} {enc : TypeId × Value → H} {W : World} {base : Nat} {spare : Nat → Bool} {held : Bool} {a : Option Addr} {len cap : Nat} {d : DataW H} {ps : List MemPlace}
    (h : DataW.Trod enc Try.prog W base spare held 54 (.slice a len cap) d ps) (hs : ∀ elems sp, d = .slice elems sp → (elems.length + sp.length) * Try.prog.bytesOf 67 ≤ reachBytes) :
    ∃ l : List Sd, len = l.length ∧ Cells W a (sds l) := by
  obtain ⟨l, h1, h2, _⟩ := openFlat sd4 4 (fun _ => True) (fun _ => rfl) Try.underlying54 (by kernel_rfl)
    (fun n cs x hx => by
      obtain ⟨s, e⟩ := four_said Try.underlying67 Try.underlying3 Try.underlying4 Try.underlying4 Try.underlying2 (by kernel_rfl) (by kernel_rfl) (by kernel_rfl) (by kernel_rfl) (by kernel_rfl) rfl rfl rfl rfl n cs x hx
      exact ⟨s, e, trivial⟩)
    (fun el sp e => by
      have h1 := hs el sp e
      have h2 := reachBytes_lt
      have h3 : Try.prog.bytesOf 67 = 24 := by kernel_rfl
      rw [h3] at h1
      omega) h
  exact ⟨l, h1, h2⟩
end Go.Proofs.Ytpacbbnnmopkjaa
