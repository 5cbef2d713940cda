/- Arguments that are a struct of two integers, opened. -/
import Derived.Test.YtimjadjopemefaaFrameTurned
import Derived.ProofKit
import Derived.SizedLaws
import Derived.ChangeSame
import Derived.OpenShut
set_option linter.unusedVariables false
set_option linter.unusedSimpArgs false
namespace Go.Proofs.Ytimjadjopemefaa
open Go.ChangeShapes Go.WideShapes Go.ChangeAt Go.RowKit
theorem openTwo {P : Program} {H : Type} {enc : TypeId × Value → H} {W : World} {r : Reach} {b0 base : Nat} {spare : Nat → Bool} {held : Bool} {v : Value} {d : DataW H} {ps : List MemPlace} {t : TypeId} {f0 f1 : Field} {k0 k1 : IntKind}
    (hu : P.underlying t = some (.struct #[f0, f1])) (h0 : P.underlying f0.type = some (.int k0)) (h1 : P.underlying f1.type = some (.int k1)) (hc : P.cellsOf t = 2) (hc0 : P.cellsOf f0.type = 1) (hc1 : P.cellsOf f1.type = 1) (ho0 : f0.offset = 0) (ho1 : f1.offset = 1)
    (h : DataW.Trod enc P W base spare held t v d ps) (hval : Value.okWide P W r b0 t v) :
    ∃ p : Int × Int, v = .agg #[.int k0 p.1, .int k1 p.2] ∧ (Lit.int k0 p.1).wf = true ∧ (Lit.int k1 p.2).wf = true := by
  obtain ⟨cs, rfl, hcs⟩ := okWide_struct hu hval
  obtain ⟨fuel, hf⟩ := h
  obtain ⟨y0, y1, n, _, hl, h2, h3⟩ := trod_struct2 hu hf
  rw [hc0, ho0] at h2
  rw [hc1, ho1] at h3
  obtain ⟨a, ha, _, hwa⟩ := DataW.trod_int h0 h2
  obtain ⟨b, hb, _, hwb⟩ := DataW.trod_int h1 h3
  refine ⟨(a, b), ?_, hwa, hwb⟩
  rw [hc] at hl hcs
  simp only [Value.cells] at hl ha hb
  congr 1
  apply Array.ext_getElem?
  intro i
  rcases cs with ⟨l⟩
  simp at hl
  match l, hl with
  | [p, q], _ =>
    simp at ha hb
    subst ha hb
    rfl
set_option maxRecDepth 100000 in
theorem openTurn {H : Type} {enc : TypeId × Value → H} {W : World} {r : Reach} {b0 base : Nat} {spare : Nat → Bool} {held : Bool} {v : Value} {d : DataW H} {ps : List MemPlace}
    (h : DataW.Trod enc Try.prog W base spare held 53 v d ps) (hval : Value.okWide Try.prog W r b0 53 v) :
    ∃ p : Int × Int, v = .agg #[.int .u16 p.1, .int .u8 p.2] ∧ (0 ≤ p.1 ∧ p.1 ≤ 65535) ∧ (0 ≤ p.2 ∧ p.2 ≤ 255) := by
  obtain ⟨p, h1, h2, h3⟩ := openTwo Try.underlying53 Try.underlying47 Try.underlying5 (by kernel_rfl) (by kernel_rfl) (by kernel_rfl) rfl rfl h hval
  exact ⟨p, h1, bounds_u16 h2, bounds_u8 h3⟩
end Go.Proofs.Ytimjadjopemefaa
