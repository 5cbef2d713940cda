/- copy(d, s), both n long, d a row of one's own, elements of any size. -/
import Derived.Test.YtimjadjopemefaaSto
import Derived.Laws.CopyOwn
set_option linter.unusedVariables false
set_option linter.unusedSimpArgs false
namespace Go.Proofs.Ytimjadjopemefaa
open Go.RowKit

theorem run_copy_rows {P : Program} (w : World) (dT sT ty elem : TypeId) (g dCap : Nat) (A : Option Addr) (n sCap sz : Nat) (cur : Array Value) (t : TypeId) (cs : List Value)
    (hu : P.underlying dT = some (.slice elem)) (hs : (P.info? elem).map (·.size) = some sz) (hsz : 0 < sz) (hg : w.heap[g]? = some (.cells cur t (0, 0))) (hn : cs.length = n * sz)
    (hsrc : Cells w A cs) (hfit : cs.length ≤ cur.size) (h1 : ∀ v ∈ cs, v.oneCell' = true) :
    (Builtin.copy_ #[dT, sT] ty #[.slice (some ⟨g, 0, none⟩) n dCap, .slice A n sCap]).run P w = .ok (goInt n) (w.setRow g (cs ++ cur.toList.drop cs.length).toArray) := by
  cases hq : P.info? elem with
  | none => simp [hq] at hs
  | some i =>
    have hi : i.size = sz := by simpa [hq] using hs
    rcases Nat.eq_zero_or_pos n with rfl | hn0
    · obtain rfl : cs = [] := List.eq_nil_of_length_eq_zero (by simpa using hn)
      have hr : w.setRow g ([] ++ cur.toList.drop ([] : List Value).length).toArray = w := by simpa using setRow_same w g cur t (0, 0) hg
      rw [hr]
      cases A with
      | none => simp [Builtin.copy_, run_underlying hu, Builtin.lenOf, Builtin.firstCells, sizeOf, typeInfo, hq, storeCells, loadCells, loadCellsFrom]
      | some a => simp [Builtin.copy_, run_underlying hu, Builtin.lenOf, Builtin.firstCells, sizeOf, typeInfo, hq, storeCells, loadCells, loadCellsFrom]
    · obtain ⟨a, rfl, hc⟩ := hsrc.at_ (by rw [hn]; exact Nat.mul_pos hn0 hsz)
      have hl := run_loadCells_list (P := P) w a cs hc
      have hst := run_storeCells_at P g 0 t cs 0 cur w hg (by simpa using hfit) h1
      simp only [Nat.zero_add, List.take_zero, List.nil_append] at hst
      rw [hn] at hl
      simp [Builtin.copy_, run_underlying hu, Builtin.lenOf, Builtin.firstCells, sizeOf, typeInfo, hq, hi, hl, hst]

theorem wpList_copy {P : Program} {w : World} {ops : Array Oper} {rest : List Oper} {o : Oper} {a : Act} {Q : Exit → Act → World → Prop} (hgd : o.guard = none) (d s : Operand) (dT sT : TypeId)
    (ho : o.op = .call { callee := .builtin .copy, args := #[d, s], argTypes := #[dT, sT] }) (e : TypeId) (z : Value) (size bytes : Nat) (hu : P.underlying dT = some (.slice e))
    (hinfo : (P.info? e).map (fun i => (i.zero, i.size, i.bytes)) = some (some z, size, bytes)) (hsz : 0 < size)
    (g dCap : Nat) (A : Option Addr) (n sCap base : Nat) (cs xs : List Value) (hd : a.eval d = .slice (some ⟨g, 0, none⟩) n dCap) (hs : a.eval s = .slice A n sCap)
    (hr : Row w base e size (.slice (some ⟨g, 0, none⟩) n dCap) n xs) (hn : cs.length = n * size) (hsrc : Cells w A cs) (h1 : ∀ v ∈ cs, v.oneCell' = true)
    (h : ∀ w', Row w' base e size (.slice (some ⟨g, 0, none⟩) n dCap) n cs → w.grownBy w' (some g) → wpList P ops Q rest (a.put o.dst (goInt n)) w') : wpList P ops Q (o :: rest) a w := by
  refine wpList_plain hgd fun K hK => ?_
  obtain ⟨i, hi, hz, rfl, rfl⟩ := info_parts hinfo
  rcases hr.2 with ⟨e1, _⟩ | ⟨g', cap, cur, e1, hb, hg, hnc, hcm, hcs, ht⟩
  · cases e1
  simp only [Value.slice.injEq, Option.some.injEq, Addr.mk.injEq, and_true, true_and] at e1
  obtain ⟨rfl, rfl⟩ := e1
  have hfit : cs.length ≤ cur.size := by rw [hn]; exact Nat.le_trans (Nat.mul_le_mul_right _ hnc) hcs
  have hrun := run_copy_rows (P := P) w dT sT o.type e g dCap A n sCap i.size cur e cs hu (by simp [hi]) hsz hg hn hsrc hfit h1
  unfold Oper.wp
  simp [execOp, ho, resolve, invoke, builtin, hd, hs, hrun, Result.andThen]
  refine hK _ _ (h _ ⟨hn, .inr ⟨g, dCap, _, rfl, hb, setRow_heap w g _ _ e _ hg, hnc, hcm, ?_, ?_⟩⟩ ⟨rfl, rfl, rfl, by simp [World.setRow], fun k hk hne => setRow_other w g k _ (fun e => hne (by rw [e]))⟩)
  · simp; omega
  · rw [← hn]; exact List.take_left
end Go.Proofs.Ytimjadjopemefaa
