/- x[:h:m] keeps the address. -/
import Derived.Test.YtimjadjopemefaaSto
set_option linter.unusedVariables false
set_option linter.unusedSimpArgs false
namespace Go.Proofs.Ytimjadjopemefaa
open Go.RowKit
theorem add_zero (a : Addr) : a.add 0 = a := by simp [Addr.add]
theorem wpList_cut_head {P : Program} {w : World} {ops : Array Oper} {rest : List Oper} {o : Oper} {a : Act} {Q : Exit → Act → World → Prop} (hgd : Region.wanted o (yielded ops a.tmps) = true) (x : Operand) (t e : TypeId) (z : Option Value) (sz bytes : Nat) (ht : P.underlying t = some (.slice e)) (hinfo : (P.info? e).map (fun i => (i.zero, i.size, i.bytes)) = some (z, sz, bytes))
    (A : Option Addr) (len cap : Nat) (hx : a.eval x = .slice A len cap) (hi mx : Operand) (ho : o.op = .slice t x none (some hi) (some mx)) (kh km : IntKind) (n c : Nat) (H M : Int) (hh : a.eval hi = .int kh H) (hm : a.eval mx = .int km M) (eH : H = (n : Int)) (eM : M = (c : Int)) (hn : n ≤ c) (hc : c ≤ cap)
    (h : wpList P ops Q rest (a.put o.dst (.slice A n c)) w) : wpList P ops Q (o :: rest) a w := by
  refine wpList_wanted hgd fun K hK => ?_
  have hb : (Instr.sliceBounds true len cap (none : Option Value) (some (a.eval hi)) (some (a.eval mx))).run P w = .ok (0, n, c) w := by
    subst eH eM
    simp [Instr.sliceBounds, hh, hm, run_sliceBound, hn, hc]
  have hr := run_cut (P := P) (w := w) t e ht z sz bytes hinfo A len cap none (some (a.eval hi)) (some (a.eval mx)) _ _ _ hb
  unfold Oper.wp execOp
  simp only [ho, Sem.run_bind, hx, Option.map_none, Option.map_some, hr, Result.andThen_ok, Nat.sub_zero, Nat.zero_mul]
  have e1 : (if c = 0 then A else A.map (·.add 0)) = A := by
    split
    · rfl
    · cases A <;> simp [add_zero]
  rw [e1]
  exact hK _ _ h
end Go.Proofs.Ytimjadjopemefaa
