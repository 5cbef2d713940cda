/- An argument that says where a crash comes, opened. -/
import Derived.Test.YtimjadjopemefaaOpt
set_option linter.unusedVariables false
set_option linter.unusedSimpArgs false
namespace Go.Proofs.Ytimjadjopemefaa
open Go.ChangeShapes Go.WideShapes Go.ChangeAt Go.RowKit
set_option maxRecDepth 100000 in
theorem openCut98 {H : Type} {enc : TypeId × Value → H} {W : World} {r : Reach} {b0 base : Nat} {spare : Nat → Bool} {held : Bool} {v : Value} {d : DataW H} {ps : List MemPlace}
    (h : DataW.Trod enc Try.prog W base spare held 98 v d ps) (hval : Value.okWide Try.prog W r b0 98 v) :
    ∃ p : Int × Int, v = .agg #[.int .i64 p.1, .int .u8 p.2] ∧ (0 ≤ p.2 ∧ p.2 ≤ 255) := by
  obtain ⟨p, h1, h2, h3⟩ := openTwo Try.underlying98 Try.underlying3 Try.underlying5 (by kernel_rfl) (by kernel_rfl) (by kernel_rfl) rfl rfl h hval
  exact ⟨p, h1, bounds_u8 h3⟩
end Go.Proofs.Ytimjadjopemefaa
