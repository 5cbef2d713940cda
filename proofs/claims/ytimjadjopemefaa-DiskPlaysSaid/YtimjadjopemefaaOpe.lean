/- Lists of acts on a disk among the arguments, opened; each number is one of 64 bits. -/
import Derived.Test.YtimjadjopemefaaOpd
set_option linter.unusedVariables false
set_option linter.unusedSimpArgs false
namespace Go.Proofs.Ytimjadjopemefaa
open Go.ChangeShapes Go.WideShapes Go.ChangeAt Go.RowKit
theorem wf_hi {n : Int} (h : (Lit.int .i64 n).wf = true) : n ≤ 9223372036854775807 := by
  simp [Lit.wf] at h
  exact h.2
/-- What is known of an act. -/
def GoodAct2 (w : World) (a : Act5) : Prop := GoodAct w a ∧ a.n ≤ 9223372036854775807
theorem openFive2 {P : Program} {H : Type} {enc : TypeId × Value → H} {W : World} {base : Nat} {spare : Nat → Bool} {held : Bool} {e ti : TypeId} {f0 f1 f2 f3 f4 : Field}
    (hu : P.underlying e = some (.struct #[f0, f1, f2, f3, f4])) (h0 : P.underlying f0.type = some (.int .i64)) (h1 : P.underlying f1.type = some (.int .i64)) (h2 : P.underlying f2.type = some (.int .i64)) (h3 : P.underlying f3.type = some .string) (h4 : P.underlying f4.type = some (.slice ti)) (hi : P.underlying ti = some (.int .i64)) (hci : P.cellsOf ti = 1)
    (hc : P.cellsOf e = 5) (hc0 : P.cellsOf f0.type = 1) (hc1 : P.cellsOf f1.type = 1) (hc2 : P.cellsOf f2.type = 1) (hc3 : P.cellsOf f3.type = 1) (hc4 : P.cellsOf f4.type = 1)
    (ho0 : f0.offset = 0) (ho1 : f1.offset = 1) (ho2 : f2.offset = 2) (ho3 : f3.offset = 3) (ho4 : f4.offset = 4) (n : Nat) (cs : List Value) (x : DataW H × List MemPlace) (h : DataW.trod enc P W base spare held n e cs = some x) :
    ∃ a : Act5, cs = act5 a ∧ GoodAct2 W a := by
  obtain ⟨a, rfl, ha⟩ := openFive hu h0 h1 h2 h3 h4 hi hci hc hc0 hc1 hc2 hc3 hc4 ho0 ho1 ho2 ho3 ho4 n cs x h
  refine ⟨a, rfl, ha, ?_⟩
  obtain ⟨y0, y1, y2, y3, y4, m, hl, g0, g1, g2, g3, g4⟩ := trod_struct5 hu h
  rw [hc2, ho2] at g2
  obtain ⟨c, hcc, _, hw⟩ := DataW.trod_int h2 g2
  simp [act5] at hcc
  rw [hcc]
  exact wf_hi hw
set_option maxRecDepth 100000 in
theorem openActs2 {H : Type} {enc : TypeId × Value → H} {W : World} {base : Nat} {spare : Nat → Bool} {held : Bool} {a : Option Addr} {len cap : Nat} {d : DataW H} {ps : List MemPlace}
    (h : DataW.Trod enc Try.prog W base spare held 67 (.slice a len cap) d ps) (hs : ∀ elems sp, d = .slice elems sp → (elems.length + sp.length) * Try.prog.bytesOf 62 ≤ reachBytes) :
    ∃ l : List Act5, len = l.length ∧ Cells W a (acs l) ∧ ∀ x ∈ l, GoodAct2 W x :=
  openFlat act5 5 (GoodAct2 W) (fun _ => rfl) Try.underlying67 (by kernel_rfl)
    (fun n cs x hx => openFive2 Try.underlying62 Try.underlying3 Try.underlying3 Try.underlying3 Try.underlying9 Try.underlying60 Try.underlying3 (by kernel_rfl) (by kernel_rfl) (by kernel_rfl) (by kernel_rfl) (by kernel_rfl) (by kernel_rfl) (by kernel_rfl) rfl rfl rfl rfl rfl n cs x hx)
    (fun el sp e => by
      have h1 := hs el sp e
      have h2 := reachBytes_lt
      have h3 : Try.prog.bytesOf 62 = 64 := by kernel_rfl
      rw [h3] at h1
      omega) h
end Go.Proofs.Ytimjadjopemefaa
