/- The walk of moietyref16.Do: the boxes, and the ends. -/
import Derived.Test.YtpacbbnnmopkjaaRp5
set_option linter.unusedVariables false
set_option linter.unusedSimpArgs false
namespace Go.Proofs.Ytpacbbnnmopkjaa
open Go.RowKit

theorem results_pl2 {fn : Func} {tmps : Array Value} {W : World} {a u : Tmp} {g : Nat} {y0 y1 y2 y3 y4 : Value} (hres : fn.results = #[.cell a 65, .tmp u]) (ha : tmps.getD a undef = .pointer (some ⟨g, 0, Option.none⟩))
    (c0 : W.cell? ⟨g, 0, Option.none⟩ = some y0) (c1 : W.cell? ⟨g, 1, Option.none⟩ = some y1) (c2 : W.cell? ⟨g, 2, Option.none⟩ = some y2) (c3 : W.cell? ⟨g, 3, Option.none⟩ = some y3) (c4 : W.cell? ⟨g, 4, Option.none⟩ = some y4) :
    (results fn tmps).run Try.prog W = .ok (.tuple #[.agg #[y0, y1, y2, y3, y4], tmps.getD u undef]) W := by
  have ha' : tmps[a]?.getD undef = .pointer (some ⟨g, 0, Option.none⟩) := by simpa using ha
  simp [results, hres, ha', c0, c1, c2, c3, c4, go_sem]

/-- The three boxes of Do, while it runs. -/
structure RD (w W : World) (i f t n : Int) (A : Option Addr) (c : Nat) (l : List Sd) (x : Sd) : Prop where
  n2 : Blk W w.heap.size 65 #[.int .i64 i, .int .i64 f, .int .i64 t, .int .i64 n, .slice A l.length c]
  n3 : Blk W (w.heap.size + 1) 67 #[.int .i64 x.kind, .bool x.pays, .bool x.yes, .int .i64 x.t]
  n4 : Blk W (w.heap.size + 1 + 1) 65 #[.int .i64 0, .int .i64 0, .int .i64 0, .int .i64 0, .slice Option.none 0 0]
  hA : Cells w A (sds l)
  bl : Below w.heap.size w W
section
variable {w W W' : World} {i f t n : Int} {A : Option Addr} {c : Nat} {l : List Sd} {x : Sd}
theorem RD.later (h : RD w W i f t n A c l x) (hb : Below W.heap.size W W') : RD w W' i f t n A c l x :=
  ⟨h.n2.below hb, h.n3.below hb, h.n4.below hb, h.hA, h.bl.trans (hb.mono h.bl.size)⟩
theorem RD.cells (h : RD w W i f t n A c l x) : Cells W A (sds l) := h.hA.below h.bl
theorem RD.box2 (h : RD w W i f t n A c l x) : W.cell? ⟨w.heap.size, 0, Option.none⟩ = some (.int .i64 i) ∧ W.cell? ⟨w.heap.size, 1, Option.none⟩ = some (.int .i64 f) ∧ W.cell? ⟨w.heap.size, 2, Option.none⟩ = some (.int .i64 t) ∧ W.cell? ⟨w.heap.size, 3, Option.none⟩ = some (.int .i64 n) ∧ W.cell? ⟨w.heap.size, 4, Option.none⟩ = some (.slice A l.length c) :=
  ⟨h.n2.cell 0 _ rfl, h.n2.cell 1 _ rfl, h.n2.cell 2 _ rfl, h.n2.cell 3 _ rfl, h.n2.cell 4 _ rfl⟩
theorem RD.box3 (h : RD w W i f t n A c l x) : W.cell? ⟨w.heap.size + 1, 0, Option.none⟩ = some (.int .i64 x.kind) ∧ W.cell? ⟨w.heap.size + 1, 1, Option.none⟩ = some (.bool x.pays) ∧ W.cell? ⟨w.heap.size + 1, 2, Option.none⟩ = some (.bool x.yes) ∧ W.cell? ⟨w.heap.size + 1, 3, Option.none⟩ = some (.int .i64 x.t) :=
  ⟨h.n3.cell 0 _ rfl, h.n3.cell 1 _ rfl, h.n3.cell 2 _ rfl, h.n3.cell 3 _ rfl⟩
theorem RD.box4 (h : RD w W i f t n A c l x) : W.cell? ⟨w.heap.size + 1 + 1, 0, Option.none⟩ = some (.int .i64 0) ∧ W.cell? ⟨w.heap.size + 1 + 1, 1, Option.none⟩ = some (.int .i64 0) ∧ W.cell? ⟨w.heap.size + 1 + 1, 2, Option.none⟩ = some (.int .i64 0) ∧ W.cell? ⟨w.heap.size + 1 + 1, 3, Option.none⟩ = some (.int .i64 0) ∧ W.cell? ⟨w.heap.size + 1 + 1, 4, Option.none⟩ = some (.slice Option.none 0 0) ∧
    W.frozen? ⟨w.heap.size + 1 + 1, 0, Option.none⟩ = false ∧ W.frozen? ⟨w.heap.size + 1 + 1, 1, Option.none⟩ = false ∧ W.frozen? ⟨w.heap.size + 1 + 1, 2, Option.none⟩ = false ∧ W.frozen? ⟨w.heap.size + 1 + 1, 3, Option.none⟩ = false ∧ W.frozen? ⟨w.heap.size + 1 + 1, 4, Option.none⟩ = false :=
  ⟨h.n4.cell 0 _ rfl, h.n4.cell 1 _ rfl, h.n4.cell 2 _ rfl, h.n4.cell 3 _ rfl, h.n4.cell 4 _ rfl, h.n4.free 0 Option.none, h.n4.free 1 Option.none, h.n4.free 2 Option.none, h.n4.free 3 Option.none, h.n4.free 4 Option.none⟩
/-- x.T = 0 -/
theorem RD.setT (h : RD w W i f t n A c l x) (v : Int) : RD w (W.setCell ⟨w.heap.size + 1, 3, Option.none⟩ (.int .i64 v)) i f t n A c l { x with t := v } := by
  have hu : Upd (fun k => k = w.heap.size + 1) W (W.setCell ⟨w.heap.size + 1, 3, Option.none⟩ (.int .i64 v)) := (Upd.refl _ _).set _ _ (fun _ => rfl)
  refine ⟨h.n2.upd hu (by omega), by simpa using h.n3.set 3 (.int .i64 v), h.n4.upd hu (by omega), h.hA, h.bl.trans (hu.below h.bl.size (fun j hj e => by omega))⟩
/-- What Do leaves. -/
def DoneDo (w : World) (i f t n : Int) (A : Option Addr) (L : List Sd) (E : Int) (e : Ending) (w' : World) : Prop :=
  ∃ A' c', e = .returned (.tuple #[.agg #[.int .i64 i, .int .i64 f, .int .i64 t, .int .i64 n, .slice A' L.length c'], .int .i64 E]) ∧ Cells w' A' (sds L) ∧ Below w.heap.size w w' ∧ ∀ ad, A' = some ad → A = some ad ∨ w.heap.size ≤ ad.block
/-- An error: the pledge as it was. -/
theorem RD.err (h : RD w W i f t n A c l x) {W9 : World} (hW : W9 = (((((W.setCell ⟨w.heap.size + 1 + 1, 0, Option.none⟩ (.int .i64 i)).setCell ⟨w.heap.size + 1 + 1, 1, Option.none⟩ (.int .i64 f)).setCell ⟨w.heap.size + 1 + 1, 2, Option.none⟩ (.int .i64 t)).setCell ⟨w.heap.size + 1 + 1, 3, Option.none⟩ (.int .i64 n)).setCell ⟨w.heap.size + 1 + 1, 4, Option.none⟩ (.slice A l.length c))) :
    Blk W9 (w.heap.size + 1 + 1) 65 #[.int .i64 i, .int .i64 f, .int .i64 t, .int .i64 n, .slice A l.length c] ∧ Cells W9 A (sds l) ∧ Below w.heap.size w W9 := by
  obtain ⟨h1, h2⟩ := five_sets h.n4 (.int .i64 i) (.int .i64 f) (.int .i64 t) (.int .i64 n) (.slice A l.length c)
  rw [hW]
  have hb := h.bl.trans (h2.below h.bl.size (fun j hj e => by omega))
  exact ⟨h1, h.hA.below hb, hb⟩
/-- Something more was taken. -/
theorem RD.ok (h : RD w W i f t n A c l x) {w8 W9 : World} {A3 : Option Addr} {c3 : Nat} {L : List Sd} (hb : Below W.heap.size W w8) (hC : Cells w8 A3 (sds L)) (ho : ∀ ad, A3 = some ad → W.heap.size ≤ ad.block)
    (hW : W9 = (((((w8.setCell ⟨w.heap.size + 1 + 1, 0, Option.none⟩ (.int .i64 i)).setCell ⟨w.heap.size + 1 + 1, 1, Option.none⟩ (.int .i64 f)).setCell ⟨w.heap.size + 1 + 1, 2, Option.none⟩ (.int .i64 t)).setCell ⟨w.heap.size + 1 + 1, 3, Option.none⟩ (.int .i64 n)).setCell ⟨w.heap.size + 1 + 1, 4, Option.none⟩ (.slice A3 (l.length + 1) c3))) :
    Blk W9 (w.heap.size + 1 + 1) 65 #[.int .i64 i, .int .i64 f, .int .i64 t, .int .i64 n, .slice A3 (l.length + 1) c3] ∧ Cells W9 A3 (sds L) ∧ Below w.heap.size w W9 ∧ ∀ ad, A3 = some ad → w.heap.size ≤ ad.block := by
  have h8 := h.later hb
  have hlt := h.n4.lt
  obtain ⟨h1, h2⟩ := five_sets h8.n4 (.int .i64 i) (.int .i64 f) (.int .i64 t) (.int .i64 n) (.slice A3 (l.length + 1) c3)
  rw [hW]
  exact ⟨h1, hC.upd h2 (fun ad e _ hk => by have := ho ad e; omega), h8.bl.trans (h2.below h8.bl.size (fun j hj e => by omega)), fun ad e => by have := ho ad e; have := h.bl.size; omega⟩
end

/-- Do's error, by what was found. -/
theorem rdoErr_0 (l : List Sd) (x : Sd) (hk : x.kind = 0) : rdoErr l x = if (x.yes && !stampOk x.t) = true then 174 else if ((rvote l x.pays).isSome && (decide (((rvote l x.pays).getD sd0).yes ≠ x.yes) || decide (((rvote l x.pays).getD sd0).t ≠ (if x.yes then x.t else 0)))) = true then 175 else 0 := by
  unfold rdoErr
  rw [if_pos hk]
  obtain ⟨q1, q2, q3, _⟩ := vtOf_get (rvote l x.pays)
  rw [q1, q2, q3]
  rfl
theorem rdoErr_1 (l : List Sd) (x : Sd) (hk : x.kind = 1) : rdoErr l x = if stampOk x.t = false then 174 else if (rfate l).1 = 3 ∨ ((rfate l).1 = 2 ∧ (rfate l).2 ≠ x.t) then 176
      else if (rfate l).1 = 0 ∧ (((rvote l true).getD sd0).yes && ((rvote l false).getD sd0).yes) = false then 177
      else if x.t < ((rvote l true).getD sd0).t ∨ x.t < ((rvote l false).getD sd0).t then 178 else 0 := by
  unfold rdoErr
  rw [if_neg (by rw [hk]; decide), if_pos hk]
  obtain ⟨q1, q2, q3, _⟩ := vtOf_get (rvote l true)
  obtain ⟨r1, r2, r3, _⟩ := vtOf_get (rvote l false)
  rw [q2, q3, r2, r3]
theorem rdoErr_2 (l : List Sd) (x : Sd) (hk : x.kind = 2) : rdoErr l x = if (rfate l).1 = 2 then 176 else 0 := by
  unfold rdoErr
  rw [if_neg (by rw [hk]; decide), if_neg (by rw [hk]; decide), if_pos hk]
theorem rdoErr_3 (l : List Sd) (x : Sd) (hk : ¬ x.kind = 0 ∧ ¬ x.kind = 1 ∧ ¬ x.kind = 2) : rdoErr l x = if (rfate l).1 = 0 then 176 else 0 := by
  unfold rdoErr
  rw [if_neg hk.1, if_neg hk.2.1, if_neg hk.2.2]
theorem rdo_err {l : List Sd} {x : Sd} (h : rdoErr l x ≠ 0) : rdo l x = l := by unfold rdo; rw [if_neg h]
theorem rdo_ok0 {l : List Sd} {x : Sd} (h : rdoErr l x = 0) (hk : x.kind = 0) : rdo l x = l ++ [{ x with t := if x.yes then x.t else 0 }] := by unfold rdo; rw [if_pos h, if_pos hk]; rfl
theorem rdo_ok {l : List Sd} {x : Sd} (h : rdoErr l x = 0) (hk : ¬ x.kind = 0) : rdo l x = l ++ [x] := by unfold rdo; rw [if_pos h, if_neg hk]
end Go.Proofs.Ytpacbbnnmopkjaa
