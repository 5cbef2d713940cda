/- A region that draws its order, whose operations and callees leave old memory alone: one walk in the order of the text. -/
import Derived.Test.YtimjadjopemefaaMem2
import Derived.Deep.QuietTactic
import Derived.BigQuiet
set_option linter.unusedVariables false
set_option linter.unusedSimpArgs false
namespace Go.Proofs.Ytimjadjopemefaa
open Go.RowKit

/-- The worlds that come later than w: nothing that lay in it has changed. -/
def Later (w : World) := { y : World // Below w.heap.size w y }
theorem wp_region_later {P : Program} {id : Nat} {Q : Exit → Act → World → Prop} {a : Act} {w : World} {l : List Oper} (hm : P.follows .mixedOrders = true) (hB : Region.lexB .any l.toArray = true)
    (h : wpQuiet P l.toArray (fun w' => ∃ x : Later w, w' = x.val) (fun a' => ∀ w', Below w.heap.size w w' → Q .normal a' w') l a) : (Code.region id l.toArray true).wp P Q a w :=
  wp_region_quiet (C := fun w' => ∃ x : Later w, w' = x.val) hm hB ⟨⟨{ w with drawn := w.drawn + 1 }, ⟨rfl, rfl, rfl, Nat.le_refl _, fun _ _ => rfl⟩⟩, rfl⟩ (by
    have e : (fun a' => ∀ w', (∃ x : Later w, w' = x.val) → Q .normal a' w') = (fun a' => ∀ w', Below w.heap.size w w' → Q .normal a' w') := by
      funext a'
      apply propext
      exact ⟨fun h w' hb => h w' ⟨⟨w', hb⟩, rfl⟩, fun h w' ⟨x, hx⟩ => h w' (hx ▸ x.2)⟩
    simp only [e]
    simpa using h)
theorem later_call {P : Program} {f : FuncId} {args : Array Value} {w : World} {x : Later w} {v : Value}
    (h : Calls P f args x.val fun e w' => e = .returned v ∧ Below x.val.heap.size x.val w') : Calls P f args x.val fun e w'' => e = .returned v ∧ ∃ y : Later w, w'' = y.val :=
  h.mono fun e w' ⟨he, hb⟩ => ⟨he, ⟨⟨w', x.2.trans (hb.mono x.2.size)⟩, rfl⟩⟩
theorem later_eq {P : Program} {f : FuncId} {args : Array Value} {w : World} {x : Later w} {v : Value}
    (h : Calls P f args x.val fun e w' => e = .returned v ∧ x.val = w') : Calls P f args x.val fun e w'' => e = .returned v ∧ ∃ y : Later w, w'' = y.val :=
  h.mono fun e w' ⟨he, hb⟩ => ⟨he, x, hb.symm⟩
theorem later_drew {P : Program} {f : FuncId} {args : Array Value} {w : World} {x : Later w} {v : Value}
    (h : Calls P f args x.val fun e w' => e = .returned v ∧ ∃ k, w' = x.val.drewN k) : Calls P f args x.val fun e w'' => e = .returned v ∧ ∃ y : Later w, w'' = y.val :=
  h.mono fun e w' ⟨he, k, hb⟩ => ⟨he, ⟨⟨w', by rw [hb]; exact ⟨x.2.os, x.2.tape, x.2.output, x.2.size, x.2.block⟩⟩, rfl⟩⟩
end Go.Proofs.Ytimjadjopemefaa
