/-
  No cell of these rows narrows 'for every input' (looked for: loops, veiled, ifaces, maps, wideKeys, modest, calm, conditions, laid).
  DERIVED. THE GIVEN ROWS OF THIS SEAT. 11 by the template 'for every input the law returns true; each argument reads behind the call as it read before'; 0 by the template 'total and deterministic' (their statements: YtpacbbnnmopkjaaTotals.lean).
  GIVEN WITH THE SEED: the statements are not yours to turn. If you find one false, say at which input.
  Laid BY PROGRAM, IN A SANDBOX (cutbox-rows.mjs): the forced cells as the released guide's own fill.sh prints them over the translation 8490fc679f660330… (all of the seat's roots in one cut). By AI agents, Wed Nov 11 2026. No macro, syntax, notation, axiom, sorry.
-/
import Derived.Test.YtpacbbnnmopkjaaChecked
import GoSem.Claim
import GoSem.ClaimJoined
import GoSem.ClaimMapViews
import Derived.JoinedTies
import Derived.KernelRfl
namespace Go.Proofs.Ytpacbbnnmopkjaa
/- THE CELL 'sum', in the pinned program and in every row, IS THE sha256 OF THE DUMP (.gsa) THAT YtpacbbnnmopkjaaProg.lean LOADS. Nothing in Lean hashes anything: it is a label: what it is worth is what the hold of that sum in a sandbox is worth. -/
noncomputable def Try.pinned : Pinned := { name := "ytpacbbnnmopkjaa", sum := "8490fc679f660330170264e5a053b1656624c824a4a9c67bc1c0b9bad73a0989", checked := Try.checked }
namespace Rows
def none {H : Type} : Left H := { results := [], args := [] }

/-- 'moietylaw11.ChainPlays': WHATEVER THE INPUT: true; the input reads as it did. -/
def chainPlaysSpec : ChangeSpec := { name := "chainPlays", fn := fun _ => fun
  | [d] => { results := [.lit (.bool true)], args := [d] }
  | _ => none }
def chainPlaysRow : OpenClaim := { program := "ytpacbbnnmopkjaa", sum := "8490fc679f660330170264e5a053b1656624c824a4a9c67bc1c0b9bad73a0989", func := "moiety/moietylaw11.ChainPlays", spec := "chainPlays", unfollowed := true, recurses := true, apart := false }
def ChainPlaysSaid : Prop := chainPlaysRow.holds Try.pinned (OpenSpec.ofChange chainPlaysSpec)

/-- ITS FALSE NEIGHBOUR: 'it returns false'. Refute it at one input. -/
def chainPlaysWrong : ChangeSpec := { name := "chainPlays", fn := fun _ => fun
  | [d] => { results := [.lit (.bool false)], args := [d] }
  | _ => none }
def ChainPlaysWrongFalsely : Prop := chainPlaysRow.holds Try.pinned (OpenSpec.ofChange chainPlaysWrong)

/-- 'moietylaw11.ChainStays': WHATEVER THE INPUT: true; the input reads as it did. -/
def chainStaysSpec : ChangeSpec := { name := "chainStays", fn := fun _ => fun
  | [d1, d2, d3] => { results := [.lit (.bool true)], args := [d1, d2, d3] }
  | _ => none }
def chainStaysRow : OpenClaim := { program := "ytpacbbnnmopkjaa", sum := "8490fc679f660330170264e5a053b1656624c824a4a9c67bc1c0b9bad73a0989", func := "moiety/moietylaw11.ChainStays", spec := "chainStays", unfollowed := true, recurses := true, apart := false }
def ChainStaysSaid : Prop := chainStaysRow.holds Try.pinned (OpenSpec.ofChange chainStaysSpec)

/-- ITS FALSE NEIGHBOUR: 'it returns false'. Refute it at one input. -/
def chainStaysWrong : ChangeSpec := { name := "chainStays", fn := fun _ => fun
  | [d1, d2, d3] => { results := [.lit (.bool false)], args := [d1, d2, d3] }
  | _ => none }
def ChainStaysWrongFalsely : Prop := chainStaysRow.holds Try.pinned (OpenSpec.ofChange chainStaysWrong)

/-- 'moietylaw11.ChainSteps': WHATEVER THE INPUT: true; the input reads as it did. -/
def chainStepsSpec : ChangeSpec := { name := "chainSteps", fn := fun _ => fun
  | [d1, d2] => { results := [.lit (.bool true)], args := [d1, d2] }
  | _ => none }
def chainStepsRow : OpenClaim := { program := "ytpacbbnnmopkjaa", sum := "8490fc679f660330170264e5a053b1656624c824a4a9c67bc1c0b9bad73a0989", func := "moiety/moietylaw11.ChainSteps", spec := "chainSteps", unfollowed := true, recurses := true, apart := false }
def ChainStepsSaid : Prop := chainStepsRow.holds Try.pinned (OpenSpec.ofChange chainStepsSpec)

/-- ITS FALSE NEIGHBOUR: 'it returns false'. Refute it at one input. -/
def chainStepsWrong : ChangeSpec := { name := "chainSteps", fn := fun _ => fun
  | [d1, d2] => { results := [.lit (.bool false)], args := [d1, d2] }
  | _ => none }
def ChainStepsWrongFalsely : Prop := chainStepsRow.holds Try.pinned (OpenSpec.ofChange chainStepsWrong)

/-- 'moietylaw11.ChainFull': WHATEVER THE INPUT: true; the input reads as it did. -/
def chainFullSpec : ChangeSpec := { name := "chainFull", fn := fun _ => fun
  | [d1, d2] => { results := [.lit (.bool true)], args := [d1, d2] }
  | _ => none }
def chainFullRow : OpenClaim := { program := "ytpacbbnnmopkjaa", sum := "8490fc679f660330170264e5a053b1656624c824a4a9c67bc1c0b9bad73a0989", func := "moiety/moietylaw11.ChainFull", spec := "chainFull", unfollowed := true, recurses := true, apart := false }
def ChainFullSaid : Prop := chainFullRow.holds Try.pinned (OpenSpec.ofChange chainFullSpec)

/-- ITS FALSE NEIGHBOUR: 'it returns false'. Refute it at one input. -/
def chainFullWrong : ChangeSpec := { name := "chainFull", fn := fun _ => fun
  | [d1, d2] => { results := [.lit (.bool false)], args := [d1, d2] }
  | _ => none }
def ChainFullWrongFalsely : Prop := chainFullRow.holds Try.pinned (OpenSpec.ofChange chainFullWrong)

/-- 'moietylaw11.ChainOwn': WHATEVER THE INPUT: true; the input reads as it did. -/
def chainOwnSpec : ChangeSpec := { name := "chainOwn", fn := fun _ => fun
  | [d] => { results := [.lit (.bool true)], args := [d] }
  | _ => none }
def chainOwnRow : OpenClaim := { program := "ytpacbbnnmopkjaa", sum := "8490fc679f660330170264e5a053b1656624c824a4a9c67bc1c0b9bad73a0989", func := "moiety/moietylaw11.ChainOwn", spec := "chainOwn", unfollowed := true, recurses := true, apart := false }
def ChainOwnSaid : Prop := chainOwnRow.holds Try.pinned (OpenSpec.ofChange chainOwnSpec)

/-- ITS FALSE NEIGHBOUR: 'it returns false'. Refute it at one input. -/
def chainOwnWrong : ChangeSpec := { name := "chainOwn", fn := fun _ => fun
  | [d] => { results := [.lit (.bool false)], args := [d] }
  | _ => none }
def ChainOwnWrongFalsely : Prop := chainOwnRow.holds Try.pinned (OpenSpec.ofChange chainOwnWrong)

/-- 'moietylaw11.ChainPrunes': WHATEVER THE INPUT: true; the input reads as it did. -/
def chainPrunesSpec : ChangeSpec := { name := "chainPrunes", fn := fun _ => fun
  | [d1, d2, d3] => { results := [.lit (.bool true)], args := [d1, d2, d3] }
  | _ => none }
def chainPrunesRow : OpenClaim := { program := "ytpacbbnnmopkjaa", sum := "8490fc679f660330170264e5a053b1656624c824a4a9c67bc1c0b9bad73a0989", func := "moiety/moietylaw11.ChainPrunes", spec := "chainPrunes", unfollowed := true, recurses := true, apart := false }
def ChainPrunesSaid : Prop := chainPrunesRow.holds Try.pinned (OpenSpec.ofChange chainPrunesSpec)

/-- ITS FALSE NEIGHBOUR: 'it returns false'. Refute it at one input. -/
def chainPrunesWrong : ChangeSpec := { name := "chainPrunes", fn := fun _ => fun
  | [d1, d2, d3] => { results := [.lit (.bool false)], args := [d1, d2, d3] }
  | _ => none }
def ChainPrunesWrongFalsely : Prop := chainPrunesRow.holds Try.pinned (OpenSpec.ofChange chainPrunesWrong)

/-- 'moietylaw16.PledgePlays': WHATEVER THE INPUT: true; the input reads as it did. -/
def pledgePlaysSpec : ChangeSpec := { name := "pledgePlays", fn := fun _ => fun
  | [d1, d2] => { results := [.lit (.bool true)], args := [d1, d2] }
  | _ => none }
def pledgePlaysRow : OpenClaim := { program := "ytpacbbnnmopkjaa", sum := "8490fc679f660330170264e5a053b1656624c824a4a9c67bc1c0b9bad73a0989", func := "moiety/moietylaw16.PledgePlays", spec := "pledgePlays", apart := false }
def PledgePlaysSaid : Prop := pledgePlaysRow.holds Try.pinned (OpenSpec.ofChange pledgePlaysSpec)

/-- ITS FALSE NEIGHBOUR: 'it returns false'. Refute it at one input. -/
def pledgePlaysWrong : ChangeSpec := { name := "pledgePlays", fn := fun _ => fun
  | [d1, d2] => { results := [.lit (.bool false)], args := [d1, d2] }
  | _ => none }
def PledgePlaysWrongFalsely : Prop := pledgePlaysRow.holds Try.pinned (OpenSpec.ofChange pledgePlaysWrong)

/-- 'moietylaw16.PledgeFates': WHATEVER THE INPUT: true; the input reads as it did. -/
def pledgeFatesSpec : ChangeSpec := { name := "pledgeFates", fn := fun _ => fun
  | [d1, d2] => { results := [.lit (.bool true)], args := [d1, d2] }
  | _ => none }
def pledgeFatesRow : OpenClaim := { program := "ytpacbbnnmopkjaa", sum := "8490fc679f660330170264e5a053b1656624c824a4a9c67bc1c0b9bad73a0989", func := "moiety/moietylaw16.PledgeFates", spec := "pledgeFates", apart := false }
def PledgeFatesSaid : Prop := pledgeFatesRow.holds Try.pinned (OpenSpec.ofChange pledgeFatesSpec)

/-- ITS FALSE NEIGHBOUR: 'it returns false'. Refute it at one input. -/
def pledgeFatesWrong : ChangeSpec := { name := "pledgeFates", fn := fun _ => fun
  | [d1, d2] => { results := [.lit (.bool false)], args := [d1, d2] }
  | _ => none }
def PledgeFatesWrongFalsely : Prop := pledgeFatesRow.holds Try.pinned (OpenSpec.ofChange pledgeFatesWrong)

/-- 'moietylaw16.PledgeTurns': WHATEVER THE INPUT: true; the input reads as it did. -/
def pledgeTurnsSpec : ChangeSpec := { name := "pledgeTurns", fn := fun _ => fun
  | [d1, d2, d3] => { results := [.lit (.bool true)], args := [d1, d2, d3] }
  | _ => none }
def pledgeTurnsRow : OpenClaim := { program := "ytpacbbnnmopkjaa", sum := "8490fc679f660330170264e5a053b1656624c824a4a9c67bc1c0b9bad73a0989", func := "moiety/moietylaw16.PledgeTurns", spec := "pledgeTurns", apart := false }
def PledgeTurnsSaid : Prop := pledgeTurnsRow.holds Try.pinned (OpenSpec.ofChange pledgeTurnsSpec)

/-- ITS FALSE NEIGHBOUR: 'it returns false'. Refute it at one input. -/
def pledgeTurnsWrong : ChangeSpec := { name := "pledgeTurns", fn := fun _ => fun
  | [d1, d2, d3] => { results := [.lit (.bool false)], args := [d1, d2, d3] }
  | _ => none }
def PledgeTurnsWrongFalsely : Prop := pledgeTurnsRow.holds Try.pinned (OpenSpec.ofChange pledgeTurnsWrong)

/-- 'moietylaw16.PledgeEnds': WHATEVER THE INPUT: true; the input reads as it did. -/
def pledgeEndsSpec : ChangeSpec := { name := "pledgeEnds", fn := fun _ => fun
  | [d1, d2] => { results := [.lit (.bool true)], args := [d1, d2] }
  | _ => none }
def pledgeEndsRow : OpenClaim := { program := "ytpacbbnnmopkjaa", sum := "8490fc679f660330170264e5a053b1656624c824a4a9c67bc1c0b9bad73a0989", func := "moiety/moietylaw16.PledgeEnds", spec := "pledgeEnds", apart := false }
def PledgeEndsSaid : Prop := pledgeEndsRow.holds Try.pinned (OpenSpec.ofChange pledgeEndsSpec)

/-- ITS FALSE NEIGHBOUR: 'it returns false'. Refute it at one input. -/
def pledgeEndsWrong : ChangeSpec := { name := "pledgeEnds", fn := fun _ => fun
  | [d1, d2] => { results := [.lit (.bool false)], args := [d1, d2] }
  | _ => none }
def PledgeEndsWrongFalsely : Prop := pledgeEndsRow.holds Try.pinned (OpenSpec.ofChange pledgeEndsWrong)

/-- 'moietylaw16.PledgeParts': WHATEVER THE INPUT: true; the input reads as it did. -/
def pledgePartsSpec : ChangeSpec := { name := "pledgeParts", fn := fun _ => fun
  | [d1, d2] => { results := [.lit (.bool true)], args := [d1, d2] }
  | _ => none }
def pledgePartsRow : OpenClaim := { program := "ytpacbbnnmopkjaa", sum := "8490fc679f660330170264e5a053b1656624c824a4a9c67bc1c0b9bad73a0989", func := "moiety/moietylaw16.PledgeParts", spec := "pledgeParts", apart := false }
def PledgePartsSaid : Prop := pledgePartsRow.holds Try.pinned (OpenSpec.ofChange pledgePartsSpec)

/-- ITS FALSE NEIGHBOUR: 'it returns false'. Refute it at one input. -/
def pledgePartsWrong : ChangeSpec := { name := "pledgeParts", fn := fun _ => fun
  | [d1, d2] => { results := [.lit (.bool false)], args := [d1, d2] }
  | _ => none }
def PledgePartsWrongFalsely : Prop := pledgePartsRow.holds Try.pinned (OpenSpec.ofChange pledgePartsWrong)

/- THE SECOND FORM. 'bulk': how many values and letters a reading holds, each counted each time it is reached (what is shared counts as often as it is met; a slice's spare places count too). A statement '..UptoSaid' is the law's where the arguments, and the package variables that the reading takes, are together of bulk at most 1048576: NARROWER than '..Said'. Prove '..Said' where nothing that the law and all that it calls make is longer than what came in: it says more and counts as full. Else prove '..UptoSaid'. A law counts once. -/
mutual
def uptoBulk {H : Type} : DataW H → Nat
  | .lit (.string bytes) => bytes.length + 1
  | .lit _ => 1
  | .nil => 1
  | .ptr d => uptoBulk d + 1
  | .slice elems spare => uptoBulkAll elems + uptoBulkAll spare + 1
  | .agg parts => uptoBulkAll parts + 1
  | .iface _ d => uptoBulk d + 1
  | .map entries => uptoBulkEntries entries + 1
  | .held _ => 1
def uptoBulkAll {H : Type} : List (DataW H) → Nat
  | [] => 0
  | d :: r => uptoBulk d + uptoBulkAll r
def uptoBulkEntries {H : Type} : List (Lit × DataW H) → Nat
  | [] => 0
  | x :: r => uptoBulkEntry x + uptoBulkEntries r
def uptoBulkEntry {H : Type} : Lit × DataW H → Nat
  | (.string bytes, d) => bytes.length + uptoBulk d + 1
  | (_, d) => uptoBulk d + 1
 end
def uptoSmall : (H : Type) → List (DataW H) → Bool := fun _ ds => decide (uptoBulkAll ds ≤ 1048576)
def OpenSpec.upto (s : _root_.Go.ChangeSpec) : _root_.Go.OpenSpec := { _root_.Go.OpenSpec.ofChange s with cond := some uptoSmall }

/-- 'moietylaw11.ChainPlays', WHERE WHAT IT READS IS OF BULK AT MOST 1048576: true; the input reads as it did. -/
def chainPlaysUptoRow : OpenClaim := { program := "ytpacbbnnmopkjaa", sum := "8490fc679f660330170264e5a053b1656624c824a4a9c67bc1c0b9bad73a0989", func := "moiety/moietylaw11.ChainPlays", spec := "chainPlays", unfollowed := true, recurses := true, apart := false, narrowed := true }
def ChainPlaysUptoSaid : Prop := chainPlaysUptoRow.holds Try.pinned (OpenSpec.upto chainPlaysSpec)

/-- 'moietylaw11.ChainStays', WHERE WHAT IT READS IS OF BULK AT MOST 1048576: true; the input reads as it did. -/
def chainStaysUptoRow : OpenClaim := { program := "ytpacbbnnmopkjaa", sum := "8490fc679f660330170264e5a053b1656624c824a4a9c67bc1c0b9bad73a0989", func := "moiety/moietylaw11.ChainStays", spec := "chainStays", unfollowed := true, recurses := true, apart := false, narrowed := true }
def ChainStaysUptoSaid : Prop := chainStaysUptoRow.holds Try.pinned (OpenSpec.upto chainStaysSpec)

/-- 'moietylaw11.ChainSteps', WHERE WHAT IT READS IS OF BULK AT MOST 1048576: true; the input reads as it did. -/
def chainStepsUptoRow : OpenClaim := { program := "ytpacbbnnmopkjaa", sum := "8490fc679f660330170264e5a053b1656624c824a4a9c67bc1c0b9bad73a0989", func := "moiety/moietylaw11.ChainSteps", spec := "chainSteps", unfollowed := true, recurses := true, apart := false, narrowed := true }
def ChainStepsUptoSaid : Prop := chainStepsUptoRow.holds Try.pinned (OpenSpec.upto chainStepsSpec)

/-- 'moietylaw11.ChainFull', WHERE WHAT IT READS IS OF BULK AT MOST 1048576: true; the input reads as it did. -/
def chainFullUptoRow : OpenClaim := { program := "ytpacbbnnmopkjaa", sum := "8490fc679f660330170264e5a053b1656624c824a4a9c67bc1c0b9bad73a0989", func := "moiety/moietylaw11.ChainFull", spec := "chainFull", unfollowed := true, recurses := true, apart := false, narrowed := true }
def ChainFullUptoSaid : Prop := chainFullUptoRow.holds Try.pinned (OpenSpec.upto chainFullSpec)

/-- 'moietylaw11.ChainOwn', WHERE WHAT IT READS IS OF BULK AT MOST 1048576: true; the input reads as it did. -/
def chainOwnUptoRow : OpenClaim := { program := "ytpacbbnnmopkjaa", sum := "8490fc679f660330170264e5a053b1656624c824a4a9c67bc1c0b9bad73a0989", func := "moiety/moietylaw11.ChainOwn", spec := "chainOwn", unfollowed := true, recurses := true, apart := false, narrowed := true }
def ChainOwnUptoSaid : Prop := chainOwnUptoRow.holds Try.pinned (OpenSpec.upto chainOwnSpec)

/-- 'moietylaw11.ChainPrunes', WHERE WHAT IT READS IS OF BULK AT MOST 1048576: true; the input reads as it did. -/
def chainPrunesUptoRow : OpenClaim := { program := "ytpacbbnnmopkjaa", sum := "8490fc679f660330170264e5a053b1656624c824a4a9c67bc1c0b9bad73a0989", func := "moiety/moietylaw11.ChainPrunes", spec := "chainPrunes", unfollowed := true, recurses := true, apart := false, narrowed := true }
def ChainPrunesUptoSaid : Prop := chainPrunesUptoRow.holds Try.pinned (OpenSpec.upto chainPrunesSpec)

/-- 'moietylaw16.PledgePlays', WHERE WHAT IT READS IS OF BULK AT MOST 1048576: true; the input reads as it did. -/
def pledgePlaysUptoRow : OpenClaim := { program := "ytpacbbnnmopkjaa", sum := "8490fc679f660330170264e5a053b1656624c824a4a9c67bc1c0b9bad73a0989", func := "moiety/moietylaw16.PledgePlays", spec := "pledgePlays", apart := false, narrowed := true }
def PledgePlaysUptoSaid : Prop := pledgePlaysUptoRow.holds Try.pinned (OpenSpec.upto pledgePlaysSpec)

/-- 'moietylaw16.PledgeFates', WHERE WHAT IT READS IS OF BULK AT MOST 1048576: true; the input reads as it did. -/
def pledgeFatesUptoRow : OpenClaim := { program := "ytpacbbnnmopkjaa", sum := "8490fc679f660330170264e5a053b1656624c824a4a9c67bc1c0b9bad73a0989", func := "moiety/moietylaw16.PledgeFates", spec := "pledgeFates", apart := false, narrowed := true }
def PledgeFatesUptoSaid : Prop := pledgeFatesUptoRow.holds Try.pinned (OpenSpec.upto pledgeFatesSpec)

/-- 'moietylaw16.PledgeTurns', WHERE WHAT IT READS IS OF BULK AT MOST 1048576: true; the input reads as it did. -/
def pledgeTurnsUptoRow : OpenClaim := { program := "ytpacbbnnmopkjaa", sum := "8490fc679f660330170264e5a053b1656624c824a4a9c67bc1c0b9bad73a0989", func := "moiety/moietylaw16.PledgeTurns", spec := "pledgeTurns", apart := false, narrowed := true }
def PledgeTurnsUptoSaid : Prop := pledgeTurnsUptoRow.holds Try.pinned (OpenSpec.upto pledgeTurnsSpec)

/-- 'moietylaw16.PledgeEnds', WHERE WHAT IT READS IS OF BULK AT MOST 1048576: true; the input reads as it did. -/
def pledgeEndsUptoRow : OpenClaim := { program := "ytpacbbnnmopkjaa", sum := "8490fc679f660330170264e5a053b1656624c824a4a9c67bc1c0b9bad73a0989", func := "moiety/moietylaw16.PledgeEnds", spec := "pledgeEnds", apart := false, narrowed := true }
def PledgeEndsUptoSaid : Prop := pledgeEndsUptoRow.holds Try.pinned (OpenSpec.upto pledgeEndsSpec)

/-- 'moietylaw16.PledgeParts', WHERE WHAT IT READS IS OF BULK AT MOST 1048576: true; the input reads as it did. -/
def pledgePartsUptoRow : OpenClaim := { program := "ytpacbbnnmopkjaa", sum := "8490fc679f660330170264e5a053b1656624c824a4a9c67bc1c0b9bad73a0989", func := "moiety/moietylaw16.PledgeParts", spec := "pledgeParts", apart := false, narrowed := true }
def PledgePartsUptoSaid : Prop := pledgePartsUptoRow.holds Try.pinned (OpenSpec.upto pledgePartsSpec)

end Rows
end Go.Proofs.Ytpacbbnnmopkjaa
