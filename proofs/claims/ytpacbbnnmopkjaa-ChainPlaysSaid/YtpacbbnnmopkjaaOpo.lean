/- Lists of calls on a chain among the arguments, opened. -/
import Derived.Test.YtpacbbnnmopkjaaCh7
import Derived.Test.YtpacbbnnmopkjaaOpl
set_option linter.unusedVariables false
set_option linter.unusedSimpArgs false
namespace Go.Proofs.Ytpacbbnnmopkjaa
open Go.ChangeShapes Go.WideShapes Go.ChangeAt Go.RowKit
instance : Inhabited Op3 := ⟨⟨0, 0, 0⟩⟩
theorem openThree {P : Program} {H : Type} {enc : TypeId × Value → H} {W : World} {base : Nat} {spare : Nat → Bool} {held : Bool} {e : TypeId} {f0 f1 f2 : Field} {k0 k1 k2 : IntKind}
    (hu : P.underlying e = some (.struct #[f0, f1, f2])) (h0 : P.underlying f0.type = some (.int k0)) (h1 : P.underlying f1.type = some (.int k1)) (h2 : P.underlying f2.type = some (.int k2)) (hc : P.cellsOf e = 3) (hc0 : P.cellsOf f0.type = 1) (hc1 : P.cellsOf f1.type = 1) (hc2 : P.cellsOf f2.type = 1)
    (ho0 : f0.offset = 0) (ho1 : f1.offset = 1) (ho2 : f2.offset = 2) (n : Nat) (cs : List Value) (x : DataW H × List MemPlace) (h : DataW.trod enc P W base spare held n e cs = some x) :
    ∃ a b c : Int, cs = [.int k0 a, .int k1 b, .int k2 c] ∧ (Lit.int k0 a).wf = true ∧ (Lit.int k1 b).wf = true ∧ (Lit.int k2 c).wf = true := by
  obtain ⟨y0, y1, y2, m, _, hl, g0, g1, g2⟩ := Go.Deep.trod_struct3 hu h
  rw [hc0, ho0] at g0
  rw [hc1, ho1] at g1
  rw [hc2, ho2] at g2
  obtain ⟨a, ha, _, hwa⟩ := DataW.trod_int h0 g0
  obtain ⟨b, hb, _, hwb⟩ := DataW.trod_int h1 g1
  obtain ⟨c, hcc, _, hwc⟩ := DataW.trod_int h2 g2
  refine ⟨a, b, c, ?_, hwa, hwb, hwc⟩
  rw [hc] at hl
  match cs, hl with
  | [p, q, r], _ =>
    simp at ha hb hcc
    subst ha hb hcc
    rfl
set_option maxRecDepth 100000 in
theorem openOps {H : Type} {enc : TypeId × Value → H} {W : World} {base : Nat} {spare : Nat → Bool} {held : Bool} {a : Option Addr} {len cap : Nat} {d : DataW H} {ps : List MemPlace}
    (h : DataW.Trod enc Try.prog W base spare held 22 (.slice a len cap) d ps) (hs : ∀ elems sp, d = .slice elems sp → (elems.length + sp.length) * Try.prog.bytesOf 32 ≤ reachBytes) :
    ∃ l : List Op3, len = l.length ∧ Cells W a (ocs l) := by
  obtain ⟨l, h1, h2, _⟩ := openFlat (fun o : Op3 => [.int .i64 o.kind, .int .i64 o.t, .int .i64 o.v]) 3 (fun _ => True) (fun _ => rfl) Try.underlying22 (by kernel_rfl)
    (fun n cs x hx => by
      obtain ⟨a, b, c, e, _⟩ := openThree Try.underlying32 Try.underlying3 Try.underlying2 Try.underlying2 (by kernel_rfl) (by kernel_rfl) (by kernel_rfl) (by kernel_rfl) rfl rfl rfl n cs x hx
      exact ⟨⟨a, b, c⟩, e, trivial⟩)
    (fun el sp e => by
      have h1 := hs el sp e
      have h2 := reachBytes_lt
      have h3 : Try.prog.bytesOf 32 = 24 := by kernel_rfl
      rw [h3] at h1
      omega) h
  exact ⟨l, h1, h2⟩
end Go.Proofs.Ytpacbbnnmopkjaa
